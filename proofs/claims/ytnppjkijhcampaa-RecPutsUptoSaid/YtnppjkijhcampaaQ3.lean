/- Regions that may be carried out in several orders: one canonical order tells of all. -/
import Derived.OrdersHeld
import Derived.Recover
import Derived.Test.YtnppjkijhcampaaProg
import Derived.Test.YtnppjkijhcampaaQ2

namespace Go.Proofs.Ytnppjkijhcampaa.Sym
open Go
set_option linter.unusedSimpArgs false
set_option linter.unusedVariables false

section
variable {P : Program} {ops : Array Oper} {Q : Exit → Act → World → Prop} {md : Region.Mode} {T : List Nat} {S0 : World → Prop}

/-- As long as nothing of T has come up, S0. -/
def Held (T : List Nat) (S0 : World → Prop) (listed : Array Bool) (w : World) : Prop := (∀ j ∈ T, listed.getD j false = false) → S0 w

def wpAnyL (P : Program) (md : Region.Mode) (ops : Array Oper) (Q : Exit → Act → World → Prop) (T : List Nat) (S0 : World → Prop) : Nat → Array Bool → Act → World → Prop
  | 0, listed, a, w => Region.ready md ops listed = [] ∧ Q .normal a w
  | n + 1, listed, a, w => (Region.ready md ops listed = [] → Q .normal a w) ∧
    ∀ i ∈ Region.ready md ops listed, wpOp P ops Q i (fun a' w' => Held T S0 (listed.setIfInBounds i true) w' ∧ wpAnyL P md ops Q T S0 n (listed.setIfInBounds i true) a' w') a w

theorem wpAnyL.any : ∀ (n : Nat) {listed : Array Bool} {a : Act} {w : World}, wpAnyL P md ops Q T S0 n listed a w → wpAny P md ops Q n listed a w
  | 0, _, _, _, h => h
  | n + 1, _, _, _, h => ⟨h.1, fun i hi => wpOp_mono (fun _ _ h' => wpAnyL.any n h'.2) (h.2 i hi)⟩
theorem wpAnyL.weaken {S1 : World → Prop} (hS : ∀ w, S0 w → S1 w) : ∀ (n : Nat) {listed : Array Bool} {a : Act} {w : World}, wpAnyL P md ops Q T S0 n listed a w → wpAnyL P md ops Q T S1 n listed a w
  | 0, _, _, _, h => h
  | n + 1, _, _, _, h => ⟨h.1, fun i hi => wpOp_mono (fun _ _ h' => ⟨fun ht => hS _ (h'.1 ht), wpAnyL.weaken hS n h'.2⟩) (h.2 i hi)⟩

/-- What only computes, or reads what S0 keeps, may be taken first. -/
theorem wpAnyL.first {i : Nat} {oi : Oper} {v : Value} (hi : ops[i]? = some oi) (hsel : ∀ (j : Nat) (o : Oper) cs b, ops[j]? = some o → o.op ≠ .select cs b)
    (hQ : ∀ c a w, Q (.panic c) (a.put oi.dst v) w → Q (.panic c) a w) (hT : ∀ j ∈ T, j ≠ i ∧ ∀ oj, ops[j]? = some oj → ∃ e ∈ oj.after, Region.binds md e = true ∧ e.on = i) :
    ∀ (n : Nat) (listed : Array Bool) (a : Act) (w : World),
      (∀ j oj, ops[j]? = some oj → j ≠ i → listed.getD j true = false → (∀ e ∈ oj.after, Region.binds md e = true → e.on ≠ i) → oi.apart ops oj = true) →
      i ∈ Region.ready md ops listed → YieldsIf P ops S0 oi v a → S0 w → (∀ j ∈ T, listed.getD j false = false) →
      wpAnyL P md ops Q T S0 n (listed.setIfInBounds i true) (a.put oi.dst v) w → wpAnyL P md ops Q T S0 (n + 1) listed a w := by
  intro n
  induction n with
  | zero =>
    intro listed a w _ hr hy hS hno h
    refine ⟨fun e => (by rw [e] at hr; cases hr), fun j hj => ?_⟩
    by_cases hji : j = i
    · subst hji; exact hy.wpOp hi hS ⟨fun _ => hS, h⟩
    · have := ready_mono hj hji
      rw [h.1] at this
      cases this
  | succ n ih =>
    intro listed a w hfree hr hy hS hno h
    refine ⟨fun e => (by rw [e] at hr; cases hr), fun j hj => ?_⟩
    by_cases hji : j = i
    · subst hji; exact hy.wpOp hi hS ⟨fun _ => hS, h⟩
    · have h1 := h.2 j (ready_mono hj hji)
      obtain ⟨hjun, oj, hoj, hall⟩ := mem_ready.1 hj
      have hnot : ∀ e ∈ oj.after, Region.binds md e = true → e.on ≠ i := fun e he hb heq => by
        have h2 := hall e he hb
        have h0 := (mem_ready.1 hr).1
        rw [heq] at h2
        rcases Nat.lt_or_ge i listed.size with h' | h'
        · simp [h'] at h0 h2; rw [h0] at h2; cases h2
        · simp [Array.getElem?_eq_none h'] at h2
      have hjT : j ∉ T := fun hin => by
        obtain ⟨e, he, hb, heq⟩ := (hT j hin).2 oj hoj
        exact hnot e he hb heq
      have h2 := wpOp_putIf hoj (hfree j oj hoj hji hjun hnot) (fun cs b => hsel i oi cs b hi) (fun cs b => hsel j oj cs b hoj) hQ hy h1
      have hfree' : ∀ k ok, ops[k]? = some ok → k ≠ i → (listed.setIfInBounds j true).getD k true = false →
          (∀ e ∈ ok.after, Region.binds md e = true → e.on ≠ i) → oi.apart ops ok = true := fun k ok hk hki hun hno => by
        refine hfree k ok hk hki ?_ hno
        by_cases hjk : j = k
        · subst hjk; exact hjun
        · rw [getD_set_ne true hjk] at hun; exact hun
      have hno' : ∀ k ∈ T, (listed.setIfInBounds j true).getD k false = false := fun k hk => by
        rw [getD_set_ne false (fun e => hjT (by rw [e]; exact hk))]; exact hno k hk
      refine wpOp_mono (fun a' w' h3 => ?_) h2
      have hs : S0 w' := h3.2.1 fun k hk => by
        rw [getD_set_ne false (fun e => hjT (by rw [e]; exact hk)), getD_set_ne false (Ne.symm (hT k hk).1)]; exact hno k hk
      refine ⟨fun _ => hs, ih (listed.setIfInBounds j true) a' w' hfree' (ready_mono hr (Ne.symm hji)) h3.1 hs hno' ?_⟩
      rw [Array.setIfInBounds_comm _ _ hji]
      exact h3.2.2

/-! ### panics -/
theorem Oper.wp_monoQ {o : Oper} {a : Act} {w : World} {K : Act → World → Prop} {Q' : Exit → Act → World → Prop} (h : ∀ e a w, Q e a w → Q' e a w) (hh : o.wp P a w K Q) : o.wp P a w K Q' := by
  unfold Oper.wp at *
  generalize (execOp a.eval o).run P w = r at *
  cases r with
  | ok n w' =>
    cases n <;> simp only [Oper.upon] at hh ⊢ <;>
      first
        | exact hh
        | exact h _ _ _ hh
        | exact Calls.mono hh (fun e w'' he => by cases e <;> first | exact he | (obtain ⟨a0, w0, h0⟩ := he; exact ⟨a0, w0, h _ _ _ h0⟩) | exact h _ _ _ he)
        | exact Rows.mono hh (fun _ _ he => he)
  | halt x w' => cases x <;> simp only [Oper.upon] at hh ⊢ <;> first | exact hh | exact h _ _ _ hh
theorem wpOp_monoQ {i : Nat} {K : Act → World → Prop} {Q' : Exit → Act → World → Prop} (h : ∀ e a w, Q e a w → Q' e a w) {a : Act} {w : World} (hh : wpOp P ops Q i K a w) : wpOp P ops Q' i K a w := by
  unfold wpOp at *
  split
  · rename_i ho
    simpa only [ho] using hh
  · rename_i o ho
    simp only [ho] at hh
    split
    · rename_i hw
      simp only [hw, if_true] at hh
      rcases hh with hh | ⟨h1, a0, w0, h2⟩
      · exact .inl (Oper.wp_monoQ h hh)
      · exact .inr ⟨h1, a0, w0, h _ _ _ h2⟩
    · rename_i hw
      simpa [hw] using hh
theorem wpAny_monoQ {Q' : Exit → Act → World → Prop} (h : ∀ e a w, Q e a w → Q' e a w) : ∀ (n : Nat) {listed : Array Bool} {a : Act} {w : World}, wpAny P md ops Q n listed a w → wpAny P md ops Q' n listed a w
  | 0, _, _, _, hh => ⟨hh.1, h _ _ _ hh.2⟩
  | n + 1, _, _, _, hh => ⟨fun e => h _ _ _ (hh.1 e), fun i hi => wpOp_monoQ h (wpOp_mono (fun _ _ h' => wpAny_monoQ h n h') (hh.2 i hi))⟩

/-- Alike but in what the region's operations write. -/
def Near (ops : Array Oper) (a a' : Act) : Prop :=
  a'.defers = a.defers ∧ a'.tmps.size = a.tmps.size ∧ ∀ t, (∀ (j : Nat) (oj : Oper), ops[j]? = some oj → oj.dst ≠ some t) → a'.tmps[t]? = a.tmps[t]?
def Qh (ops : Array Oper) (Q : Exit → Act → World → Prop) : Exit → Act → World → Prop
  | .panic c, a, w => ∀ a', Near ops a a' → Q (.panic c) a' w
  | e, a, w => Q e a w
theorem Qh.of {e : Exit} {a : Act} {w : World} (h : Qh ops Q e a w) : Q e a w := by
  cases e <;> first | exact h | exact h a ⟨rfl, rfl, fun _ _ => rfl⟩
theorem Qh.put {i : Nat} {oi : Oper} (hi : ops[i]? = some oi) (v : Value) (c : List PanicEntry) (a : Act) (w : World) (h : Qh ops Q (.panic c) (a.put oi.dst v) w) : Qh ops Q (.panic c) a w := by
  intro a' ⟨h1, h2, h3⟩
  refine h a' ⟨h1.trans (Act.put_defers' _ _ _).symm, ?_, fun t ht => ?_⟩
  · rw [h2]; cases oi.dst <;> simp [Act.put]
  · rw [h3 t ht]
    cases hd : oi.dst with
    | none => rfl
    | some d =>
      have : d ≠ t := by rintro rfl; exact ht i oi hi hd
      simp [Act.put, Array.getElem?_setIfInBounds_ne this]
end

theorem dstMask_bit {ops : Array Oper} {j t : Nat} {oj : Oper} (hj : ops[j]? = some oj) (hd : oj.dst = some t) : (dstMask ops).testBit t = true := by
  unfold dstMask
  have hm : oj ∈ ops.toList := List.mem_of_getElem? (by simpa using hj)
  generalize ops.toList = l at hm
  have mono : ∀ (l : List Oper) (m : Nat), m.testBit t = true → (l.foldl (fun m o => match o.dst with | some d => m ||| 2 ^ d | none => m) m).testBit t = true := by
    intro l
    induction l with
    | nil => intro m h; exact h
    | cons o l ih =>
      intro m h
      rw [List.foldl_cons]
      refine ih _ ?_
      split
      · rw [Nat.testBit_or, h]; rfl
      · exact h
  generalize 0 = m
  induction l generalizing m with
  | nil => cases hm
  | cons o l ih =>
    rw [List.foldl_cons]
    rcases List.mem_cons.1 hm with rfl | hm
    · refine mono l _ ?_
      rw [hd]
      simp only
      rw [Nat.testBit_or, Nat.testBit_two_pow_self, Bool.or_true]
    · exact ih hm _
theorem maskN_sound {G : Gh} {w : World} (m : Nat) : ∀ (i : Nat) {vs : List V} {us us' : List Value}, All2 (Rv G w) vs us → us'.length = us.length → (∀ t, m.testBit (i + t) = false → us'[t]? = us[t]?) → All2 (Rv G w) (maskN m i vs) us'
  | _, [], [], [], _, _, _ => trivial
  | i, v :: vs, u :: us, u' :: us', h, hl, ht => by
    refine ⟨?_, maskN_sound m (i + 1) h.2 (by simpa using hl) fun t h' => ?_⟩
    · cases hb : m.testBit i with
      | true => trivial
      | false =>
        have := ht 0 (by simpa using hb)
        simp only [List.getElem?_cons_zero, Option.some.injEq] at this
        rw [this]; exact h.1
    · have := ht (t + 1) (by rw [← h']; congr 1; omega)
      simpa using this
  | _, [], _ :: _, _, h, _, _ => h.elim
  | _, _ :: _, [], _, h, _, _ => h.elim
  | _, [], [], _ :: _, _, hl, _ => by simp at hl
  | _, _ :: _, _ :: _, [], _, hl, _ => by simp at hl
theorem Rel.mask {F : Fra} {G : Gh} {A : AS} {a a' : Act} {cst : List (Array Value)} {w : World} (R : Rel F G A a.tmps cst w) {ops : Array Oper} (hn : Near ops a a') :
    Rel F G { A with tm := maskN (dstMask ops) 0 A.tm } a'.tmps cst w :=
  ⟨maskN_sound _ 0 R.tm (by simpa using hn.2.1) fun t ht => by
    have := hn.2.2 t fun j oj hj hd => by rw [Nat.zero_add, dstMask_bit hj hd] at ht; cases ht
    simpa using this, R.stk, R.ob, R.gh⟩

/-! ### the test of an order -/
def waitsOn (ops : Array Oper) (j i : Nat) : Bool := match ops[j]? with
  | some o => o.after.any fun e => Region.binds .any e && e.on == i
  | none => true
def quietOk (ops : Array Oper) (T : List Nat) (listed : Array Bool) (i : Nat) : Bool :=
  Region.free .any ops listed i && ((Region.ready .any ops listed).contains i && T.all fun j => waitsOn ops j i && (!(j == i) && !listed.getD j false))
def soleOk (ops : Array Oper) (listed : Array Bool) (i : Nat) : Bool := match Region.ready .any ops listed with
  | [j] => j == i
  | _ => false
def readOk (ops : Array Oper) (i : Nat) : Bool := match ops[i]? with
  | some o => !isRead o.op
  | none => false
def chkD (ops : Array Oper) (T : List Nat) : Bool → Array Bool → List (Nat × Nat) → Bool
  | _, listed, [] => (Region.ready .any ops listed).isEmpty
  | ph, listed, (i, m) :: is => match m with
    | 0 => quietOk ops T listed i && readOk ops i && chkD ops T ph (listed.setIfInBounds i true) is
    | 1 => quietOk ops T listed i && ph && chkD ops T ph (listed.setIfInBounds i true) is
    | 2 => soleOk ops listed i && T.all (fun j => !(j == i)) && chkD ops T false (listed.setIfInBounds i true) is
    | _ => soleOk ops listed i && (T.any (· == i) && decide (i < listed.size)) && chkD ops T false (listed.setIfInBounds i true) is

section
variable {P : Program} {tt : TT} {ops : Array Oper} {T : List Nat}

theorem Qh.post {R : Type} {F : Fra} {G' : Gh} {A' : AS} {a' : Act} {cst : List (Array Value)} {w' : World} {r : R} {K : Ex → AS → Option R} {Q : Exit → Act → World → Prop} {dfs : List Deferred} (hK : Post F cst dfs r K Q)
    (R' : Rel F G' A' a'.tmps cst w') (hd : a'.defers = dfs) {v : V} (hk : K (.panic v) { A' with tm := maskN (dstMask ops) 0 A'.tm } = some r) (u : Value) (hu : Rv G' w' v u) :
    Qh ops Q (.panic [{ v := u, recovered := false }]) a' w' := by
  intro a'' hn
  exact hK (.panic v) _ G' a'' w' (R'.mask hn) (hn.1.trans hd) hk u hu

/-- What is known as long as nothing of T has come. -/
structure Hold (G0 : Gh) (w0 : World) (hid : List Nat) (G : Gh) (w : World) : Prop where
  sub : ∀ b o, G0.S b o → G.S b o
  mu : ∀ key ∈ hid, ∀ b, G0.mu key = some b → G.mu key = some b
  agr : Agr (· ∈ hid) G0 w0 w
theorem Hold.step {G0 G G' : Gh} {w0 w w' : World} {hid : List Nat} (h : Hold G0 w0 hid G w) (u : UntH G hid w G' w') : Hold G0 w0 hid G' w' where
  sub := fun b o hs => (u.1 b o (h.sub b o hs)).1
  mu := fun key hk b hb => (u.2 key hk b (h.mu key hk b hb)).1
  agr := ⟨fun b o hs => (u.1 b o (h.sub b o hs)).2.trans (h.agr.1 b o hs), fun key b hk hb => (u.2 key hk b (h.mu key hk b hb)).2.trans (h.agr.2 key b hk hb)⟩

theorem evD_sound (htt : TTok P tt) {hd : Hd} (hh : HdOk P hd) (hs : Region.noSelect ops = true) {R : Type} {F : Fra} {cst : List (Array Value)} {kb : Nat} (hkb : ∀ d, F.mu0 (kb + d) = none) {r : R} {Q : Exit → Act → World → Prop} {G0 : Gh} {w0 : World} :
    ∀ (is : List (Nat × Nat)) {ph : Bool} {listed : Array Bool} {hid : List Nat} {G : Gh} {A : AS} {a : Act} {w : World} {K : Ex → AS → Option R},
    chkD ops T ph listed is = true → evD tt hd kb ops is hid A K = some r → Rel F G A a.tmps cst w → Post F cst a.defers r K Q →
    ((∀ j ∈ T, listed.getD j false = false) → Hold G0 w0 hid G w) → (ph = true → G = G0 ∧ w = w0) →
    wpAnyL P .any ops (Qh ops Q) T (Agr (· ∈ hid) G0 w0) is.length listed a w
  | [], ph, listed, hid, G, A, a, w, K, hc, h, Rl, hK, hH, hph => by
    simp only [chkD, List.isEmpty_iff] at hc
    exact ⟨hc, hK .normal A G a w Rl rfl h⟩
  | (i, m) :: is, ph, listed, hid, G, A, a, w, K, hc, h, Rl, hK, hH, hph => by
    simp only [evD] at h
    cases ho : ops[i]? with
    | none => rw [ho] at h; cases h
    | some o =>
      rw [ho] at h
      simp only at h
      -- quiet steps
      have quiet : ∀ (hid' : List Nat), quietOk ops T listed i = true → (∀ w', Agr (· ∈ hid') G0 w0 w' → Agr (· ∈ hid) G0 w0 w') → ((∀ j ∈ T, listed.getD j false = false) → Agr (· ∈ hid') G0 w0 w) →
          ∀ v, YieldsIf P ops (Agr (· ∈ hid') G0 w0) o v a → wpAnyL P .any ops (Qh ops Q) T (Agr (· ∈ hid') G0 w0) is.length (listed.setIfInBounds i true) (a.put o.dst v) w →
          wpAnyL P .any ops (Qh ops Q) T (Agr (· ∈ hid) G0 w0) (is.length + 1) listed a w := by
        intro hid' hq hm hA v hy hrest
        simp only [quietOk, Bool.and_eq_true, List.all_eq_true, Bool.not_eq_true', beq_eq_false_iff_ne] at hq
        obtain ⟨hf, hr, hT⟩ := hq
        have hno : ∀ j ∈ T, listed.getD j false = false := fun j hj => (hT j hj).2.2
        refine (wpAnyL.first ho (Region.noSelect_spec hs) (fun c a w => Qh.put ho v c a w) (fun j hj => ⟨(hT j hj).2.1, fun oj hoj => ?_⟩) is.length listed a w (Region.free_spec ho hf) (by simpa using hr) hy (hA hno) hno hrest).weaken hm
        have := (hT j hj).1
        simp only [waitsOn, hoj] at this
        obtain ⟨e, he, hb⟩ := Array.any_eq_true'.1 this
        simp only [Bool.and_eq_true, beq_iff_eq] at hb
        exact ⟨e, he, hb.1, hb.2⟩
      have hset : ∀ j ∈ T, j ≠ i → (listed.setIfInBounds i true).getD j false = listed.getD j false := fun j _ hne => getD_set_ne false (Ne.symm hne)
      have hTq : quietOk ops T listed i = true → (∀ j ∈ T, (listed.setIfInBounds i true).getD j false = false) → ∀ j ∈ T, listed.getD j false = false := by
        intro hq _ j hj
        simp only [quietOk, Bool.and_eq_true, List.all_eq_true, Bool.not_eq_true', beq_eq_false_iff_ne] at hq
        exact (hq.2.2 j hj).2.2
      -- steps that come alone
      have sole : ∀ (hid' : List Nat), soleOk ops listed i = true → (∀ a' w', (a'.defers = a.defers) → (∃ G' A', Rel F G' A' a'.tmps cst w' ∧ UntH G hid' w G' w' ∧ evD tt hd kb ops is hid A' K = some r) →
            Held T (Agr (· ∈ hid) G0 w0) (listed.setIfInBounds i true) w' ∧ wpAnyL P .any ops (Qh ops Q) T (Agr (· ∈ hid) G0 w0) is.length (listed.setIfInBounds i true) a' w') →
          guarded ops o A (fun A => evOp tt hd kb hid' o A fun ex A' => match ex with
            | .normal => evD tt hd kb ops is hid A' K
            | .panic v => K (.panic v) { A' with tm := maskN (dstMask ops) 0 A'.tm }
            | ex => K ex A') (fun A => evD tt hd kb ops is hid A K) = some r →
          wpAnyL P .any ops (Qh ops Q) T (Agr (· ∈ hid) G0 w0) (is.length + 1) listed a w := by
        intro hid' hs1 hrest h
        have hr : Region.ready .any ops listed = [i] := by
          unfold soleOk at hs1
          split at hs1
          · rename_i j e
            rw [e, beq_iff_eq.1 hs1]
          · cases hs1
        refine ⟨fun e => (by rw [e] at hr; cases hr), fun j hj => ?_⟩
        rw [hr, List.mem_singleton] at hj
        subst hj
        unfold wpOp
        rw [ho]
        simp only
        rcases guarded_cases Rl h with ⟨hw, A1, R1, h1⟩ | ⟨hw, A1, R1, h1⟩
        · rw [if_pos hw]
          refine .inl (evOp_sound htt hh R1 hkb hid' o h1 ?_)
          intro ex A' G' a' w' R' hd' hk
          cases ex with
          | normal => exact fun hu => hrest a' w' hd' ⟨G', A', R', hu, hk⟩
          | exit id => exact hK _ A' G' a' w' R' hd' hk
          | ret => exact hK _ A' G' a' w' R' hd' hk
          | panic v => exact fun u hu => Qh.post hK R' hd' hk u hu
        · rw [if_neg (by simp [hw])]
          exact hrest _ w (Act.put_defers' _ _ _) ⟨G, A1, R1, .refl _ _ _, h1⟩
      match m, hc, h with
      | 0, hc, h =>
        simp only [chkD, Bool.and_eq_true] at hc
        obtain ⟨⟨hq, hrd⟩, hc⟩ := hc
        have hrd' : isRead o.op = false := by simpa [readOk, ho] using hrd
        rcases guarded_cases Rl h with ⟨hw, A1, R1, h1⟩ | ⟨hw, A1, R1, h1⟩
        · split at h1
          · rename_i chk v hv
            cases chk with
            | false => cases h1
            | true =>
              simp only [cond_true, AS.putK_eq] at h1
              obtain ⟨u, hu, hr⟩ := evP_all (H := fun _ => True) htt (fun x => R1.opd x) R1.ob o hv rfl fun _ _ _ _ _ _ => trivial
              refine quiet hid hq (fun _ h => h) (fun hT => (hH hT).agr) u (.inl ⟨hw, fun w' _ => hu w' fun e => by rw [hrd'] at e; cases e⟩) ?_
              exact evD_sound htt hh hs hkb is hc h1 (R1.puts hr o.dst) (by rw [Act.put_defers']; exact hK) (fun hT => hH (hTq hq hT)) hph
          · cases h1
        · refine quiet hid hq (fun _ h => h) (fun hT => (hH hT).agr) undef (.inr ⟨hw, rfl⟩) ?_
          exact evD_sound htt hh hs hkb is hc h1 R1 (by rw [Act.put_defers']; exact hK) (fun hT => hH (hTq hq hT)) hph
      | 1, hc, h =>
        simp only [chkD, Bool.and_eq_true] at hc
        obtain ⟨⟨hq, rfl⟩, hc⟩ := hc
        obtain ⟨rfl, rfl⟩ := hph rfl
        rcases guarded_cases Rl h with ⟨hw, A1, R1, h1⟩ | ⟨hw, A1, R1, h1⟩
        · split at h1
          · rename_i chk v hv
            cases chk with
            | false => cases h1
            | true =>
              simp only [cond_true, AS.putK_eq] at h1
              obtain ⟨u, hu, hr⟩ := evP_all (H := (· ∈ loadKey A1 o.op ++ hid)) htt (fun x => R1.opd x) R1.ob o hv rfl fun t x k j e1 e2 => by
                rw [e1]; simp only [loadKey, e2]; simp
              refine quiet (loadKey A1 o.op ++ hid) hq (fun w' h => ⟨h.1, fun key b hk hb => h.2 key b (List.mem_append_right _ hk) hb⟩) (fun _ => Agr.refl _ _ _) u (.inl ⟨hw, fun w' h' => hu w' fun _ => h'⟩) ?_
              exact evD_sound htt hh hs hkb is hc h1 (R1.puts hr o.dst) (by rw [Act.put_defers']; exact hK) (fun hT => ⟨fun _ _ h => h, fun _ _ _ h => h, Agr.refl _ _ _⟩) fun _ => ⟨rfl, rfl⟩
          · cases h1
        · refine quiet hid hq (fun _ h => h) (fun hT => (hH hT).agr) undef (.inr ⟨hw, rfl⟩) ?_
          exact evD_sound htt hh hs hkb is hc h1 R1 (by rw [Act.put_defers']; exact hK) (fun hT => hH (hTq hq hT)) fun _ => ⟨rfl, rfl⟩
      | 2, hc, h =>
        simp only [chkD, Bool.and_eq_true, List.all_eq_true, Bool.not_eq_true', beq_eq_false_iff_ne] at hc
        obtain ⟨⟨hso, hiT⟩, hc⟩ := hc
        refine sole hid hso (fun a' w' hd' ⟨G', A', R', hu, hk⟩ => ?_) h
        have hold : (∀ j ∈ T, (listed.setIfInBounds i true).getD j false = false) → Hold G0 w0 hid G' w' := fun hT => (hH fun j hj => by rw [← hset j hj (hiT j hj)]; exact hT j hj).step hu
        exact ⟨fun hT => (hold hT).agr, evD_sound htt hh hs hkb is hc hk R' (by rw [hd']; exact hK) hold (fun e => by cases e)⟩
      | m + 3, hc, h =>
        simp only [chkD, Bool.and_eq_true, List.any_eq_true, beq_iff_eq, exists_eq_right, decide_eq_true_eq] at hc
        obtain ⟨⟨hso, hiT, hil⟩, hc⟩ := hc
        have hno : ¬ ∀ j ∈ T, (listed.setIfInBounds i true).getD j false = false := fun hT => by
          have := hT i hiT
          simp [hil] at this
        refine sole [] hso (fun a' w' hd' ⟨G', A', R', hu, hk⟩ => ?_) h
        exact ⟨fun hT => absurd hT hno, evD_sound htt hh hs hkb is hc hk R' (by rw [hd']; exact hK) (fun hT => absurd hT hno) (fun e => by cases e)⟩

/-! ### finding an order -/
def quietOp (tt : TT) : Op → Bool
  | .move _ | .nilCheck _ | .binOp .. | .unOp .. | .fieldAddr .. | .field .. | .indexAddr .. | .index .. | .slice .. | .load .. | .extract .. | .build .. | .makeInterface .. | .makeFunc .. => true
  | .convert _ d _ => match (tt.at d).d with | .sl _ => false | _ => true
  | .call c => match c.callee with | .builtin .len => true | .builtin .min => true | .builtin .max => true | _ => false
  | _ => false
def greedyD (tt : TT) (ops : Array Oper) (t0 : Nat) : Nat → Bool → Array Bool → List (Nat × Nat)
  | 0, _, _ => []
  | n + 1, ph, listed =>
    let rd := Region.ready .any ops listed
    match rd.find? fun i => Nat.blt i t0 && (match ops[i]? with | some o => quietOp tt o.op && (ph || !isRead o.op) | none => false) with
    | some i => (i, bif readOk ops i then 0 else 1) :: greedyD tt ops t0 n ph (listed.setIfInBounds i true)
    | none => match rd with
      | i :: _ => (i, bif Nat.blt i t0 then 2 else 3) :: greedyD tt ops t0 n false (listed.setIfInBounds i true)
      | [] => []
/-- The last ones, each of which waits for all that stand ahead of it. -/
def tailD (ops : Array Oper) : Nat → Nat
  | 0 => 0
  | t + 1 => bif (List.range t).all fun i => waitsOn ops t i then tailD ops t else t + 1
def orderD (tt : TT) : Dr := fun ops =>
  let t0 := tailD ops ops.size
  let is := greedyD tt ops t0 ops.size true (Array.replicate ops.size false)
  bif Region.noSelect ops && (is.length == ops.size && chkD ops ((List.range (ops.size - t0)).map (t0 + ·)) true (Array.replicate ops.size false) is) then some is else none

theorem orderD_ok (htt : TTok P tt) : DrawOk P tt (orderD tt) := by
  intro hd hh R F cst kb ops is r Q G A a w K hkb ho h Rl hK
  unfold orderD at ho
  simp only at ho
  generalize tailD ops ops.size = t0 at ho
  generalize greedyD tt ops t0 ops.size true (Array.replicate ops.size false) = is' at ho
  cases hc : Region.noSelect ops && (is'.length == ops.size && chkD ops ((List.range (ops.size - t0)).map (t0 + ·)) true (Array.replicate ops.size false) is') with
  | false => rw [hc] at ho; cases ho
  | true =>
    rw [hc] at ho
    simp only [cond_true, Option.some.injEq] at ho
    subst ho
    simp only [Bool.and_eq_true, beq_iff_eq] at hc
    obtain ⟨hs, hl, hc⟩ := hc
    have Rl' : Rel F G A a.tmps cst { w with drawn := w.drawn + 1 } := Rl.drew
    have := evD_sound (T := (List.range (ops.size - t0)).map (t0 + ·)) (G0 := G) (w0 := { w with drawn := w.drawn + 1 }) htt hh hs hkb is' hc h Rl' hK (fun _ => ⟨fun _ _ h => h, fun _ _ _ h => h, Agr.refl _ _ _⟩) fun _ => ⟨rfl, rfl⟩
    rw [hl] at this
    exact wpAny_monoQ (fun e a w => Qh.of) _ (wpAnyL.any _ this)
end

end Go.Proofs.Ytnppjkijhcampaa.Sym

/- A program's types as a table; contracts as a table; summaries of loops. -/
namespace Go.Proofs.Ytnppjkijhcampaa.Sym
open Go
set_option linter.unusedSimpArgs false
set_option linter.unusedVariables false

/-! ### types -/
def tyFs (f : Nat → Option Ty) : List Field → Option Ty
  | [] => some .unit
  | x :: xs => match f x.type with
    | some a => match tyFs f xs with
      | some b => some (.prod a b)
      | none => none
    | none => none
def tyOf (P : Program) : Nat → Nat → Option Ty
  | 0, _ => none
  | n + 1, t => match P.underlying t with
    | some .bool => some .bool
    | some (.int k) => some (.int k)
    | some .string => some .str
    | some (.slice e) => match tyOf P n e with
      | some t => some (.sl e t)
      | none => none
    | some (.struct fs) => tyFs (tyOf P n) fs.toList
    | _ => none
def tiOf (P : Program) (t : Nat) : TI := match P.info? t with
  | some i => match P.underlying t with
    | some d => match i.zero with
      | some z => bif vAgg z == isSt (dsOf d) then ⟨dsOf d, tyOf P 8 t, i.size, i.bytes, z.cells.toList⟩ else .none
      | none => .none
    | none => .none
  | none => .none
def ttOf (P : Program) (n : Nat) : TT := (List.range n).map (tiOf P)
theorem ttOf_ok (P : Program) (n : Nat) : TTok P (ttOf P n) := by
  intro t ht
  have e : (ttOf P n).at t = if t < n then tiOf P t else .none := by
    unfold ttOf TT.at
    rw [List.getD_eq_getElem?_getD, List.getElem?_map]
    by_cases h : t < n
    · rw [List.getElem?_range h, if_pos h]; rfl
    · rw [List.getElem?_eq_none (by simp; omega), if_neg h]; rfl
  rw [e] at ht ⊢
  by_cases h : t < n
  · rw [if_pos h] at ht ⊢
    unfold tiOf at ht ⊢
    split
    · rename_i i hi
      rw [hi] at ht
      simp only at ht
      split
      · rename_i d hd
        rw [hd] at ht
        simp only at ht
        split
        · rename_i z hz
          rw [hz] at ht
          simp only at ht
          cases hb : vAgg z == isSt (dsOf d) with
          | false => rw [hb] at ht; exact absurd rfl ht
          | true => exact ⟨⟨d, hd, rfl⟩, i, z, hi, rfl, rfl, hz, rfl, by simpa using hb⟩
        · rename_i hz; rw [hz] at ht; exact absurd rfl ht
      · rename_i hd; rw [hd] at ht; exact absurd rfl ht
    · rename_i hi; rw [hi] at ht; exact absurd rfl ht
  · rw [if_neg h] at ht; exact absurd rfl ht

/-! ### contracts -/
abbrev Hc := (R : Type) → List V → Nat → AS → (Oc → AS → Option R) → Option R
def hcAt : List (Nat × Hc) → Nat → Option Hc
  | [], _ => none
  | (g, h) :: l, f => bif Nat.beq g f then some h else hcAt l f
def hdT (l : List (Nat × Hc)) : Hd := fun R f args id A K => match hcAt l f with
  | some h => h R args id A K
  | none => none
def HcsOk (P : Program) : List (Nat × Hc) → Prop
  | [] => True
  | p :: l => HcOk P p.1 p.2 ∧ HcsOk P l
theorem HcsOk.nil {P : Program} : HcsOk P [] := trivial
theorem HcsOk.cons {P : Program} {f : Nat} {h : Hc} {l : List (Nat × Hc)} (a : HcOk P f h) (b : HcsOk P l) : HcsOk P ((f, h) :: l) := ⟨a, b⟩
theorem hcAt_ok {P : Program} : ∀ {l : List (Nat × Hc)} {f : Nat} {h : Hc}, HcsOk P l → hcAt l f = some h → HcOk P f h
  | [], _, _, _, e => by cases e
  | (g, h') :: l, f, h, hl, e => by
    simp only [hcAt] at e
    cases hb : Nat.beq g f with
    | true =>
      rw [hb] at e
      simp only [cond_true, Option.some.injEq] at e
      subst e
      have := Nat.eq_of_beq_eq_true hb
      subst this
      exact hl.1
    | false =>
      rw [hb] at e
      exact hcAt_ok hl.2 e
theorem hdT_ok {P : Program} {l : List (Nat × Hc)} (hl : HcsOk P l) : HdOk P (hdT l) := by
  intro R f args id A K r F G ts cst w vals hid h Rl hv
  unfold hdT at h
  split at h
  · rename_i hc e
    exact hcAt_ok hl e R args id A K r F G ts cst w vals hid h Rl hv
  · cases h

/-! ### summaries of loops -/
/-- A cell of a state at a loop's head: a hole, an owned list, or what it always is. -/
inductive SC where
  | hol (t : Ty)
  | onl (e : Nat) (t : Ty) (own : Nat)
  | exl (e : Nat) (t : Ty) (i j : Nat)
  | ext (e : Nat) (t : Ty) (i j : Nat)
  | ptr (key off : Nat)
  | nils | nilp | top | itr
@[reducible] def SC.den : SC → Type
  | .hol t => t.den
  | .onl _ t _ => List t.den
  | .exl _ t _ _ => List t.den
  | .ext _ t _ _ => Nat × List t.den
  | .itr => List Int × Int
  | _ => Unit
@[reducible] def SCs.den : List SC → Type
  | [] => Unit
  | .hol t :: ss => t.den × SCs.den ss
  | .onl _ t _ :: ss => List t.den × SCs.den ss
  | .exl _ t _ _ :: ss => List t.den × SCs.den ss
  | .ext _ t _ _ :: ss => (Nat × List t.den) × SCs.den ss
  | .ptr _ _ :: ss => SCs.den ss
  | .nils :: ss => SCs.den ss
  | .nilp :: ss => SCs.den ss
  | .top :: ss => SCs.den ss
  | .itr :: ss => (List Int × Int) × SCs.den ss
def SC.dec : (s : SC) → C → Option s.den
  | .hol t, c => castC t c
  | .onl e t own, .lst e' t' xs own' => if h : e = e' ∧ t' = t ∧ own = own' then some (h.2.1 ▸ xs) else none
  | .exl e t i j, .ex e' t' lo xs i' j' => bif !(Nat.beq j 0) && (Nat.beq i i' && (Nat.beq j j' || Nat.beq i' j')) then (bif Nat.beq lo 0 then (if h : e = e' ∧ t' = t then some (h.2 ▸ xs) else none) else none) else none
  | .ext e t i j, .ex e' t' lo xs i' j' => bif !(Nat.beq j 0) && (Nat.beq i i' && (Nat.beq j j' || Nat.beq i' j')) then (if h : e = e' ∧ t' = t then some (lo, h.2 ▸ xs) else none) else none
  | .ptr k o, .ptr k' o' => bif Nat.beq k k' && Nat.beq o o' then some () else none
  | .nils, .nils => some ()
  | .nilp, .nilp => some ()
  | .top, _ => some ()
  | _, _ => none
def SC.mk : (s : SC) → s.den → C
  | .hol (.int k), x => .int k x
  | .hol .bool, x => .bool x
  | .hol .str, x => .str x
  | .hol (.sl e t), x => .lst e t x 0
  | .hol _, _ => .top
  | .onl e t own, x => .lst e t x own
  | .exl e t i j, x => .ex e t 0 x i j
  | .ext e t i j, x => .ex e t x.1 x.2 i j
  | .ptr k o, _ => .ptr k o
  | .nils, _ => .nils
  | .nilp, _ => .nilp
  | .top, _ => .top
  | .itr, x => .itr x
def SCs.dec : (ss : List SC) → List C → Option (SCs.den ss)
  | [], [] => some ()
  | .hol t :: ss, c :: cs => match SC.dec (.hol t) c with | some x => (match SCs.dec ss cs with | some xs => some (x, xs) | none => none) | none => none
  | .onl e t own :: ss, c :: cs => match SC.dec (.onl e t own) c with | some x => (match SCs.dec ss cs with | some xs => some (x, xs) | none => none) | none => none
  | .exl e t i j :: ss, c :: cs => match SC.dec (.exl e t i j) c with | some x => (match SCs.dec ss cs with | some xs => some (x, xs) | none => none) | none => none
  | .ext e t i j :: ss, c :: cs => match SC.dec (.ext e t i j) c with | some x => (match SCs.dec ss cs with | some xs => some (x, xs) | none => none) | none => none
  | .ptr k o :: ss, c :: cs => match SC.dec (.ptr k o) c with | some _ => SCs.dec ss cs | none => none
  | .nils :: ss, c :: cs => match SC.dec .nils c with | some _ => SCs.dec ss cs | none => none
  | .nilp :: ss, c :: cs => match SC.dec .nilp c with | some _ => SCs.dec ss cs | none => none
  | .top :: ss, _ :: cs => SCs.dec ss cs
  | _, _ => none
def SCs.mk : (ss : List SC) → SCs.den ss → List C
  | [], _ => []
  | .hol t :: ss, x => SC.mk (.hol t) x.1 :: SCs.mk ss x.2
  | .onl e t own :: ss, x => SC.mk (.onl e t own) x.1 :: SCs.mk ss x.2
  | .exl e t i j :: ss, x => SC.mk (.exl e t i j) x.1 :: SCs.mk ss x.2
  | .ext e t i j :: ss, x => SC.mk (.ext e t i j) x.1 :: SCs.mk ss x.2
  | .ptr k o :: ss, x => .ptr k o :: SCs.mk ss x
  | .nils :: ss, x => .nils :: SCs.mk ss x
  | .nilp :: ss, x => .nilp :: SCs.mk ss x
  | .top :: ss, x => .top :: SCs.mk ss x
  | .itr :: ss, x => .itr x.1 :: SCs.mk ss x.2
def SC.wf : (s : SC) → s.den → Prop
  | .hol t, x => t.wf x
  | .onl _ t _, xs => xs.length ≤ maxLen ∧ ∀ x ∈ xs, t.wf x
  | .exl _ t _ _, xs => xs.length ≤ maxLen ∧ ∀ x ∈ xs, t.wf x
  | .ext _ t _ _, xs => xs.1 + xs.2.length ≤ maxLen ∧ ∀ x ∈ xs.2, t.wf x
  | _, _ => True
def SCs.wf : (ss : List SC) → SCs.den ss → Prop
  | [], _ => True
  | .hol t :: ss, x => t.wf x.1 ∧ SCs.wf ss x.2
  | .onl _ t _ :: ss, x => (x.1.length ≤ maxLen ∧ ∀ y ∈ x.1, t.wf y) ∧ SCs.wf ss x.2
  | .exl _ t _ _ :: ss, x => (x.1.length ≤ maxLen ∧ ∀ y ∈ x.1, t.wf y) ∧ SCs.wf ss x.2
  | .ext _ t _ _ :: ss, x => (x.1.1 + x.1.2.length ≤ maxLen ∧ ∀ y ∈ x.1.2, t.wf y) ∧ SCs.wf ss x.2
  | .ptr _ _ :: ss, x => SCs.wf ss x
  | .nils :: ss, x => SCs.wf ss x
  | .nilp :: ss, x => SCs.wf ss x
  | .top :: ss, x => SCs.wf ss x
  | .itr :: ss, x => (byteR x.1.1 ∧ x.1.1.length ≤ maxLen ∧ 0 ≤ x.1.2) ∧ SCs.wf ss x.2

section
variable {G : Gh} {w : World}

theorem castC_one {t : Ty} {c : C} {x : t.den} {v : Value} (h : castC t c = some x) (hv : Rc G w c v) : Rc G w (SC.mk (.hol t) x) v := by
  have hcell := hv.cell
  have hr := castC_sound (G := G) (w := w) t c x v h hv
  have hs := toCs_sound (G := G) (w := w) t x [v] hr
  cases t <;> first | exact hs.1 | exact hcell
/-- The ids may be weaker. -/
theorem exw {e : Nat} {t : Ty} {lo : Nat} {xs : List t.den} {i j i' j' : Nat} {v : Value} (hb : (!(Nat.beq j 0) && (Nat.beq i i' && (Nat.beq j j' || Nat.beq i' j'))) = true) (hv : Rc G w (.ex e t lo xs i' j') v) : Rc G w (.ex e t lo xs i j) v := by
  simp only [Bool.and_eq_true, Bool.not_eq_true', Bool.or_eq_true] at hb
  obtain ⟨h0, h1, h2⟩ := hb
  have h1 := Nat.eq_of_beq_eq_true h1
  subst h1
  have hj : j ≠ 0 := by rintro rfl; cases h0
  rcases hv with hv | ⟨b, cap, e0, ⟨n1, n2, ho⟩, hx⟩
  · exact .inl hv
  · refine .inr ⟨b, cap, e0, ⟨n1, hj, ?_⟩, hx⟩
    rcases h2 with h2 | h2
    · rw [Nat.eq_of_beq_eq_true h2]; exact ho
    · have h2 := Nat.eq_of_beq_eq_true h2
      subst h2
      rcases ho with ho | ho <;> exact .inl ho
theorem exwf {e : Nat} {t : Ty} {lo : Nat} {xs : List t.den} {i j : Nat} {v : Value} (hv : Rc G w (.ex e t lo xs i j) v) : lo + xs.length ≤ maxLen ∧ ∀ x ∈ xs, t.wf x := by
  rcases hv with ⟨rfl, rfl, _⟩ | ⟨b, cap, e0, _, cur, el, _, _, h2, h3, h4⟩
  · exact ⟨Nat.zero_le _, fun x hx => by simp at hx⟩
  · refine ⟨Nat.le_trans h2 h3, fun x hx => ?_⟩
    obtain ⟨k, hk⟩ := List.getElem?_of_mem hx
    obtain ⟨c, hc, _⟩ := h4 k x hk
    exact Rt.wf _ x c hc
theorem SC.dec_sound : ∀ {s : SC} {c : C} {x : s.den} {v : Value}, s.dec c = some x → Rc G w c v → Rc G w (s.mk x) v ∧ s.wf x := by
  intro s c x v h hv
  cases s with
  | hol t => exact ⟨castC_one h hv, Rt.wf (w := w) t x [v] (castC_sound t c x v h hv)⟩
  | onl e t own =>
    cases c <;> simp only [SC.dec] at h <;> try cases h
    rename_i e' t' xs own'
    split at h
    · rename_i hh
      obtain ⟨rfl, rfl, rfl⟩ := hh
      cases h
      refine ⟨hv, ?_⟩
      obtain ⟨A, cap, _, h1, h2, hrow, _⟩ := hv
      refine ⟨Nat.le_trans h1 h2, fun y hy => ?_⟩
      obtain ⟨i, hi⟩ := List.getElem?_of_mem hy
      obtain ⟨b, o, c, _, hc, _⟩ := hrow.cellAt hi
      exact Rt.wf _ y c hc
    · cases h
  | exl e t i j =>
    cases c <;> simp only [SC.dec] at h <;> try cases h
    rename_i e' t' lo xs i' j'
    cases hb : !(Nat.beq j 0) && (Nat.beq i i' && (Nat.beq j j' || Nat.beq i' j')) with
    | false => rw [hb] at h; cases h
    | true =>
      rw [hb] at h
      simp only [cond_true] at h
      cases hl : Nat.beq lo 0 with
      | false => rw [hl] at h; cases h
      | true =>
        rw [hl] at h
        simp only [cond_true] at h
        have hl := Nat.eq_of_beq_eq_true hl
        subst hl
        split at h
        · rename_i hh
          obtain ⟨rfl, rfl⟩ := hh
          cases h
          exact ⟨exw hb hv, by have := exwf hv; rwa [Nat.zero_add] at this⟩
        · cases h
  | ext e t i j =>
    cases c <;> simp only [SC.dec] at h <;> try cases h
    rename_i e' t' lo xs i' j'
    cases hb : !(Nat.beq j 0) && (Nat.beq i i' && (Nat.beq j j' || Nat.beq i' j')) with
    | false => rw [hb] at h; cases h
    | true =>
      rw [hb] at h
      simp only [cond_true] at h
      split at h
      · rename_i hh
        obtain ⟨rfl, rfl⟩ := hh
        cases h
        exact ⟨exw hb hv, exwf hv⟩
      · cases h
  | ptr k o =>
    cases c <;> simp only [SC.dec] at h <;> try cases h
    rename_i k' o'
    cases hb : Nat.beq k k' && Nat.beq o o' with
    | false => rw [hb] at h; cases h
    | true =>
      simp only [Bool.and_eq_true] at hb
      have e1 := Nat.eq_of_beq_eq_true hb.1
      have e2 := Nat.eq_of_beq_eq_true hb.2
      subst e1; subst e2
      exact ⟨hv, trivial⟩
  | nils => cases c <;> simp only [SC.dec] at h <;> first | exact ⟨hv, trivial⟩ | cases h
  | nilp => cases c <;> simp only [SC.dec] at h <;> first | exact ⟨hv, trivial⟩ | cases h
  | top => exact ⟨hv.cell, trivial⟩
  | itr => cases c <;> simp [SC.dec] at h
theorem SCs.dec_sound : ∀ {ss : List SC} {cs : List C} {x : SCs.den ss} {vs : List Value}, SCs.dec ss cs = some x → All2 (Rc G w) cs vs → All2 (Rc G w) (SCs.mk ss x) vs ∧ SCs.wf ss x
  | [], [], _, vs, _, hv => ⟨hv, trivial⟩
  | [], _ :: _, _, _, h, _ => by simp [SCs.dec] at h
  | s :: ss, [], _, _, h, _ => by cases s <;> simp [SCs.dec] at h
  | s :: ss, c :: cs, x, [], h, hv => hv.elim
  | s :: ss, c :: cs, x, v :: vs, h, hv => by
    cases s <;> simp only [SCs.dec] at h
    case hol t =>
      split at h
      · rename_i y hy
        split at h
        · rename_i ys hys
          cases h
          obtain ⟨h1, h2⟩ := SC.dec_sound hy hv.1
          obtain ⟨h3, h4⟩ := SCs.dec_sound hys hv.2
          exact ⟨⟨h1, h3⟩, h2, h4⟩
        · cases h
      · cases h
    case onl e t own =>
      split at h
      · rename_i y hy
        split at h
        · rename_i ys hys
          cases h
          obtain ⟨h1, h2⟩ := SC.dec_sound hy hv.1
          obtain ⟨h3, h4⟩ := SCs.dec_sound hys hv.2
          exact ⟨⟨h1, h3⟩, h2, h4⟩
        · cases h
      · cases h
    case exl e t i j =>
      split at h
      · rename_i y hy
        split at h
        · rename_i ys hys
          cases h
          obtain ⟨h1, h2⟩ := SC.dec_sound hy hv.1
          obtain ⟨h3, h4⟩ := SCs.dec_sound hys hv.2
          exact ⟨⟨h1, h3⟩, h2, h4⟩
        · cases h
      · cases h
    case ext e t i j =>
      split at h
      · rename_i y hy
        split at h
        · rename_i ys hys
          cases h
          obtain ⟨h1, h2⟩ := SC.dec_sound hy hv.1
          obtain ⟨h3, h4⟩ := SCs.dec_sound hys hv.2
          exact ⟨⟨h1, h3⟩, h2, h4⟩
        · cases h
      · cases h
    case top =>
      obtain ⟨h3, h4⟩ := SCs.dec_sound h hv.2
      exact ⟨⟨hv.1.cell, h3⟩, h4⟩
    case itr => cases h
    all_goals
      split at h
      · rename_i y hy
        obtain ⟨h1, _⟩ := SC.dec_sound hy hv.1
        obtain ⟨h3, h4⟩ := SCs.dec_sound h hv.2
        exact ⟨⟨h1, h3⟩, h4⟩
      · cases h
end

/-- A temporary. -/
inductive SV where
  | one (s : SC) | agg (ss : List SC) | any
def SV.cs : SV → List SC
  | .one s => [s]
  | .agg ss => ss
  | .any => []
@[reducible] def DenT : List SV → Type
  | [] => Unit
  | .any :: vs => DenT vs
  | .one (.ptr _ _) :: vs => DenT vs
  | .one .nils :: vs => DenT vs
  | .one .nilp :: vs => DenT vs
  | .one .top :: vs => DenT vs
  | .one .itr :: vs => DenT vs
  | .one (.hol t) :: vs => t.den × DenT vs
  | .one (.onl _ t _) :: vs => List t.den × DenT vs
  | .one (.exl _ t _ _) :: vs => List t.den × DenT vs
  | .one (.ext _ t _ _) :: vs => (Nat × List t.den) × DenT vs
  | .agg ss :: vs => SCs.den ss × DenT vs
def decT : (vs : List SV) → List V → Option (DenT vs)
  | [], [] => some ()
  | .any :: vs, _ :: us => decT vs us
  | .one (.ptr k o) :: vs, .one c :: us => match SC.dec (.ptr k o) c with | some _ => decT vs us | none => none
  | .one .nils :: vs, .one c :: us => match SC.dec .nils c with | some _ => decT vs us | none => none
  | .one .nilp :: vs, .one c :: us => match SC.dec .nilp c with | some _ => decT vs us | none => none
  | .one .top :: vs, .one _ :: us => decT vs us
  | .one (.hol t) :: vs, .one c :: us => match SC.dec (.hol t) c with | some x => (match decT vs us with | some xs => some (x, xs) | none => none) | none => none
  | .one (.onl e t own) :: vs, .one c :: us => match SC.dec (.onl e t own) c with | some x => (match decT vs us with | some xs => some (x, xs) | none => none) | none => none
  | .one (.exl e t i j) :: vs, .one c :: us => match SC.dec (.exl e t i j) c with | some x => (match decT vs us with | some xs => some (x, xs) | none => none) | none => none
  | .one (.ext e t i j) :: vs, .one c :: us => match SC.dec (.ext e t i j) c with | some x => (match decT vs us with | some xs => some (x, xs) | none => none) | none => none
  | .agg ss :: vs, .agg cs :: us => match SCs.dec ss cs with | some x => (match decT vs us with | some xs => some (x, xs) | none => none) | none => none
  | _, _ => none
def mkT : (vs : List SV) → DenT vs → List V
  | [], _ => []
  | .any :: vs, x => .any :: mkT vs x
  | .one (.ptr k o) :: vs, x => .one (.ptr k o) :: mkT vs x
  | .one .nils :: vs, x => .one .nils :: mkT vs x
  | .one .nilp :: vs, x => .one .nilp :: mkT vs x
  | .one .top :: vs, x => .one .top :: mkT vs x
  | .one .itr :: vs, x => .any :: mkT vs x
  | .one (.hol t) :: vs, x => .one (SC.mk (.hol t) x.1) :: mkT vs x.2
  | .one (.onl e t own) :: vs, x => .one (SC.mk (.onl e t own) x.1) :: mkT vs x.2
  | .one (.exl e t i j) :: vs, x => .one (SC.mk (.exl e t i j) x.1) :: mkT vs x.2
  | .one (.ext e t i j) :: vs, x => .one (SC.mk (.ext e t i j) x.1) :: mkT vs x.2
  | .agg ss :: vs, x => .agg (SCs.mk ss x.1) :: mkT vs x.2
def wfT : (vs : List SV) → DenT vs → Prop
  | [], _ => True
  | .any :: vs, x => wfT vs x
  | .one (.ptr _ _) :: vs, x => wfT vs x
  | .one .nils :: vs, x => wfT vs x
  | .one .nilp :: vs, x => wfT vs x
  | .one .top :: vs, x => wfT vs x
  | .one .itr :: vs, x => wfT vs x
  | .one (.hol t) :: vs, x => t.wf x.1 ∧ wfT vs x.2
  | .one (.onl _ t _) :: vs, x => (x.1.length ≤ maxLen ∧ ∀ y ∈ x.1, t.wf y) ∧ wfT vs x.2
  | .one (.exl _ t _ _) :: vs, x => (x.1.length ≤ maxLen ∧ ∀ y ∈ x.1, t.wf y) ∧ wfT vs x.2
  | .one (.ext _ t _ _) :: vs, x => (x.1.1 + x.1.2.length ≤ maxLen ∧ ∀ y ∈ x.1.2, t.wf y) ∧ wfT vs x.2
  | .agg ss :: vs, x => SCs.wf ss x.1 ∧ wfT vs x.2
theorem decT_sound {G : Gh} {w : World} : ∀ {vs : List SV} {us : List V} {x : DenT vs} {zs : List Value}, decT vs us = some x → All2 (Rv G w) us zs → All2 (Rv G w) (mkT vs x) zs ∧ wfT vs x
  | [], [], _, zs, _, hv => ⟨hv, trivial⟩
  | [], _ :: _, _, _, h, _ => by simp [decT] at h
  | v :: vs, [], _, _, h, _ => by
    cases v with
    | one s => cases s <;> simp [decT] at h
    | agg ss => simp [decT] at h
    | any => simp [decT] at h
  | v :: vs, u :: us, x, [], h, hv => hv.elim
  | v :: vs, u :: us, x, z :: zs, h, hv => by
    cases v with
    | any =>
      simp only [decT] at h
      obtain ⟨h3, h4⟩ := decT_sound h hv.2
      exact ⟨⟨trivial, h3⟩, h4⟩
    | agg ss =>
      cases u <;> simp only [decT] at h <;> try cases h
      rename_i cs
      split at h
      · rename_i y hy
        split at h
        · rename_i ys hys
          cases h
          obtain ⟨us', rfl, hu⟩ := hv.1
          obtain ⟨h1, h2⟩ := SCs.dec_sound hy hu
          obtain ⟨h3, h4⟩ := decT_sound hys hv.2
          exact ⟨⟨⟨us', rfl, h1⟩, h3⟩, h2, h4⟩
        · cases h
      · cases h
    | one s =>
      cases u with
      | one c =>
        cases s <;> simp only [decT] at h
        case hol t =>
          split at h
          · rename_i y hy
            split at h
            · rename_i ys hys
              cases h
              obtain ⟨h1, h2⟩ := SC.dec_sound hy hv.1
              obtain ⟨h3, h4⟩ := decT_sound hys hv.2
              exact ⟨⟨h1, h3⟩, h2, h4⟩
            · cases h
          · cases h
        case onl e t own =>
          split at h
          · rename_i y hy
            split at h
            · rename_i ys hys
              cases h
              obtain ⟨h1, h2⟩ := SC.dec_sound hy hv.1
              obtain ⟨h3, h4⟩ := decT_sound hys hv.2
              exact ⟨⟨h1, h3⟩, h2, h4⟩
            · cases h
          · cases h
        case exl e t i j =>
          split at h
          · rename_i y hy
            split at h
            · rename_i ys hys
              cases h
              obtain ⟨h1, h2⟩ := SC.dec_sound hy hv.1
              obtain ⟨h3, h4⟩ := decT_sound hys hv.2
              exact ⟨⟨h1, h3⟩, h2, h4⟩
            · cases h
          · cases h
        case ext e t i j =>
          split at h
          · rename_i y hy
            split at h
            · rename_i ys hys
              cases h
              obtain ⟨h1, h2⟩ := SC.dec_sound hy hv.1
              obtain ⟨h3, h4⟩ := decT_sound hys hv.2
              exact ⟨⟨h1, h3⟩, h2, h4⟩
            · cases h
          · cases h
        case top =>
          obtain ⟨h3, h4⟩ := decT_sound h hv.2
          exact ⟨⟨Rc.cell hv.1, h3⟩, h4⟩
        case itr => cases h
        all_goals
          split at h
          · rename_i y hy
            obtain ⟨h1, _⟩ := SC.dec_sound hy hv.1
            obtain ⟨h3, h4⟩ := decT_sound h hv.2
            exact ⟨⟨h1, h3⟩, h4⟩
          · cases h
      | _ => cases s <;> simp [decT] at h

/-- The objects. -/
@[reducible] def DenB : List (Option (List SC)) → Type
  | [] => Unit
  | none :: os => DenB os
  | some ss :: os => SCs.den ss × DenB os
/-- An iterator. -/
def decI : (ss : List SC) → List C → Option (SCs.den ss)
  | [.itr], [.itr x] => some (x, ())
  | _, _ => none
def decB : (os : List (Option (List SC))) → List (Option (List C)) → Option (DenB os)
  | [], _ => some ()
  | none :: os, _ :: bs => decB os bs
  | none :: os, [] => decB os []
  | some ss :: os, some cs :: bs => match (bif cs.any C.isItr then decI ss cs else SCs.dec ss cs) with | some x => (match decB os bs with | some xs => some (x, xs) | none => none) | none => none
  | _, _ => none
def mkB : (os : List (Option (List SC))) → DenB os → List (Option (List C))
  | [], _ => []
  | none :: os, x => none :: mkB os x
  | some ss :: os, x => some (SCs.mk ss x.1) :: mkB os x.2
def wfB : (os : List (Option (List SC))) → DenB os → Prop
  | [], _ => True
  | none :: os, x => wfB os x
  | some ss :: os, x => SCs.wf ss x.1 ∧ wfB os x.2
theorem decObj_sound {G : Gh} {w : World} {ss : List SC} {cs : List C} {y : SCs.den ss} (h : (bif cs.any C.isItr then decI ss cs else SCs.dec ss cs) = some y) (ho : ∃ o : Obj, ObjOk G w cs o) :
    SCs.wf ss y ∧ ∀ o, ObjOk G w cs o → ObjOk G w (SCs.mk ss y) o := by
  obtain ⟨o, ho⟩ := ho
  cases hn : cs.any C.isItr with
  | false =>
    rw [hn] at h
    obtain ⟨cur, el, _, hr⟩ := ho.cells hn
    refine ⟨(SCs.dec_sound h hr).2, fun o' ho' => ?_⟩
    obtain ⟨cur', el', e', hr'⟩ := ho'.cells hn
    exact .inl ⟨cur', el', e', (SCs.dec_sound h hr').1⟩
  | true =>
    rw [hn] at h
    simp only [cond_true] at h
    unfold decI at h
    split at h
    · rename_i x
      cases h
      refine ⟨?_, fun o' ho' => ho'⟩
      rcases ho with ⟨cur, el, _, hr⟩ | ⟨s, n, e2, rfl, hbr, hlen⟩
      · match hcl : cur.toList, hr with
        | [], hr => exact hr.elim
        | _ :: _, hr => exact hr.1.elim
      · simp only [List.cons.injEq, C.itr.injEq, and_true] at e2
        subst e2
        exact ⟨⟨hbr, hlen, Int.natCast_nonneg n⟩, trivial⟩
    · cases h
theorem decB_sound {G : Gh} {w : World} : ∀ {os : List (Option (List SC))} {bs : List (Option (List C))} {x : DenB os}, decB os bs = some x →
    (∀ (k : Nat) (cs : List C), bs[k]? = some (some cs) → ∃ o : Obj, ObjOk G w cs o) →
    wfB os x ∧ ∀ (k : Nat) (cs : List C), (mkB os x)[k]? = some (some cs) → ∃ cs0 : List C, bs[k]? = some (some cs0) ∧ ∀ o, ObjOk G w cs0 o → ObjOk G w cs o
  | [], _, _, _, _ => ⟨trivial, fun k cs h => by simp [mkB] at h⟩
  | none :: os, [], x, h, hb => by
    simp only [decB] at h
    obtain ⟨h1, h2⟩ := decB_sound h hb
    refine ⟨h1, fun k cs hk => ?_⟩
    cases k with
    | zero => simp [mkB] at hk
    | succ k => obtain ⟨cs0, h3, _⟩ := h2 k cs (by simpa [mkB] using hk); simp at h3
  | none :: os, b :: bs, x, h, hb => by
    simp only [decB] at h
    obtain ⟨h1, h2⟩ := decB_sound h fun k cs hk => hb (k + 1) cs (by simpa using hk)
    refine ⟨h1, fun k cs hk => ?_⟩
    cases k with
    | zero => simp [mkB] at hk
    | succ k => obtain ⟨cs0, h3, h4⟩ := h2 k cs (by simpa [mkB] using hk); exact ⟨cs0, by simpa using h3, h4⟩
  | some ss :: os, [], x, h, hb => by simp [decB] at h
  | some ss :: os, none :: bs, x, h, hb => by simp [decB] at h
  | some ss :: os, some cs :: bs, x, h, hb => by
    simp only [decB] at h
    split at h
    · rename_i y hy
      split at h
      · rename_i ys hys
        cases h
        obtain ⟨h1, h2⟩ := decB_sound hys fun k cs hk => hb (k + 1) cs (by simpa using hk)
        obtain ⟨h6, h7⟩ := decObj_sound hy (hb 0 cs rfl)
        refine ⟨⟨h6, h1⟩, fun k cs' hk => ?_⟩
        cases k with
        | zero =>
          simp only [mkB, List.getElem?_cons_zero, Option.some.injEq] at hk
          subst hk
          exact ⟨cs, rfl, h7⟩
        | succ k => obtain ⟨cs0, h3, h4⟩ := h2 k cs' (by simpa [mkB] using hk); exact ⟨cs0, by simpa using h3, h4⟩
      · cases h
    · cases h

/-- A state's shape. -/
structure Ls where
  tm : List SV
  ob : List (Option (List SC))
abbrev Ls.den (s : Ls) : Type := DenT s.tm × DenB s.ob
def Ls.mk' (s : Ls) (x : s.den) : AS := ⟨mkT s.tm x.1, [], mkB s.ob x.2⟩
def Ls.dec (s : Ls) (A : AS) : Option s.den := match A with
  | ⟨tm, [], ob⟩ => match decT s.tm tm with
    | some x => match decB s.ob ob with
      | some y => some (x, y)
      | none => none
    | none => none
  | _ => none
def Ls.wf (s : Ls) (x : s.den) : Prop := wfT s.tm x.1 ∧ wfB s.ob x.2
theorem Ls.dec_sound {s : Ls} {A : AS} {x : s.den} (h : s.dec A = some x) {F : Fra} {G : Gh} {ts : Array Value} {cst : List (Array Value)} {w : World} (R : Rel F G A ts cst w) : Rel F G (s.mk' x) ts cst w ∧ s.wf x := by
  obtain ⟨tm, stk, ob⟩ := A
  unfold Ls.dec at h
  split at h
  · rename_i tm' ob' e
    cases e
    split at h
    · rename_i y hy
      split at h
      · rename_i z hz
        cases h
        obtain ⟨h1, h2⟩ := decT_sound hy R.tm
        obtain ⟨h3, h4⟩ := decB_sound (G := G) (w := w) hz fun k cs hk => let ⟨b, o, _, _, hr⟩ := R.ob k cs hk; ⟨_, hr⟩
        refine ⟨⟨h1, R.stk, fun k cs hk => ?_, R.gh⟩, h2, h3⟩
        obtain ⟨cs0, h5, h6⟩ := h4 k cs hk
        obtain ⟨b, o, hm, hh, hr⟩ := R.ob k cs0 h5
        exact ⟨b, o, hm, hh, h6 _ hr⟩
      · cases h
    · cases h
  · cases h

/-- How a loop is left. -/
inductive Lx where
  | exit (id : Nat) | ret | normal | panic (T : Nat) (t : Ty)
@[reducible] def Lx.den : Lx → Type
  | .panic _ t => t.den
  | _ => Unit
def Lx.ex : (e : Lx) → e.den → Ex
  | .exit id, _ => .exit id
  | .ret, _ => .ret
  | .normal, _ => .normal
  | .panic T t, x => .panic (.one (.ifc T t x))
def Lx.dec : (e : Lx) → Ex → Option e.den
  | .exit id, .exit id' => bif Nat.beq id id' then some () else none
  | .ret, .ret => some ()
  | .panic T t, .panic (.one (.ifc T' t' x)) => if h : T = T' ∧ t' = t then some (h.2 ▸ x) else none
  | _, _ => none
@[reducible] def DenX : List (Lx × Ls) → Type
  | [] => Empty
  | x :: xs => Out (x.1.den × x.2.den) (DenX xs)
def decX : (xs : List (Lx × Ls)) → Ex → AS → Option (DenX xs)
  | [], _, _ => none
  | x :: xs, e, A => match x.1.dec e with
    | some p => match x.2.dec A with
      | some d => some (.ret (p, d))
      | none => match decX xs e A with
        | some y => some (.pan y)
        | none => none
    | none => match decX xs e A with
      | some y => some (.pan y)
      | none => none
def mkX {R : Type} : (xs : List (Lx × Ls)) → DenX xs → (Ex → AS → Option R) → Option R
  | [], x, _ => nomatch x
  | x :: _, .ret d, K => K (x.1.ex d.1) (x.2.mk' d.2)
  | _ :: xs, .pan y, K => mkX xs y K
structure Lo where
  st : Ls
  xs : List (Lx × Ls)
def loHd (lo : Lo) (Fn : lo.st.den → Tr (DenX lo.xs)) : Lh := fun R A K => match lo.st.dec A with
  | some x => (Fn x).run fun y => mkX lo.xs y K
  | none => none

theorem decX_sound {R : Type} {F : Fra} {G : Gh} {A : AS} {a : Act} {cst : List (Array Value)} {w : World} (Rl : Rel F G A a.tmps cst w) {K : Ex → AS → Option R} {r : R} {Q : Exit → Act → World → Prop} {dfs : List Deferred} (hd : a.defers = dfs) (hK : Post F cst dfs r K Q) :
    ∀ {xs : List (Lx × Ls)} {e : Ex} {y : DenX xs}, decX xs e A = some y → mkX xs y K = some r →
      match e with
      | .normal => Q .normal a w
      | .exit id => Q (.exit id) a w
      | .ret => Q .ret a w
      | .panic v => ∀ u, Rv G w v u → Q (.panic [{ v := u, recovered := false }]) a w
  | [], e, y, h, _ => by simp [decX] at h
  | (l, s) :: xs, e, y, h, hm => by
    simp only [decX] at h
    have rest : ∀ {y' : DenX xs}, decX xs e A = some y' → mkX xs y' K = some r → _ := fun h1 h2 => decX_sound Rl hd hK h1 h2
    split at h
    · rename_i p hp
      split at h
      · rename_i d hdd
        cases h
        simp only [mkX] at hm
        have R' := (Ls.dec_sound hdd Rl).1
        cases l with
        | normal => cases e <;> simp [Lx.dec] at hp
        | ret =>
          cases e <;> simp only [Lx.dec] at hp <;> try cases hp
          exact hK .ret _ G a w R' hd hm
        | exit id =>
          cases e <;> simp only [Lx.dec] at hp <;> try cases hp
          rename_i id'
          cases hb : Nat.beq id id' with
          | false => rw [hb] at hp; cases hp
          | true =>
            have := Nat.eq_of_beq_eq_true hb
            subst this
            exact hK (.exit id) _ G a w R' hd hm
        | panic T t =>
          cases e with
          | panic v =>
            cases v with
            | one c =>
              cases c <;> simp only [Lx.dec] at hp <;> try cases hp
              rename_i T' t' x
              split at hp
              · rename_i hh
                obtain ⟨rfl, rfl⟩ := hh
                cases hp
                exact hK (.panic _) _ G a w R' hd hm
              · cases hp
            | _ => simp [Lx.dec] at hp
          | _ => simp [Lx.dec] at hp
      · split at h
        · rename_i y' hy'
          cases h
          exact rest hy' hm
        · cases h
    · split at h
      · rename_i y' hy'
        cases h
        exact rest hy' hm
      · cases h

/-- A loop keeps to its summary, if what its body makes of the shape, looked at often enough, is what the summary says. -/
theorem lo_sound {P : Program} {tt : TT} (htt : TTok P tt) (hm : P.follows .mixedOrders = true) {hd : Hd} (hh : HdOk P hd) {okDraw : Dr} (hdr : DrawOk P tt okDraw) {lp : Lp} {kb lr : Nat} {m : Nat} {b : Code} {x : List (Nat × Nat)}
    (hlp : ∀ e ∈ loopsOf lr b m x, ∀ h, lp (firstId e.2.1) = some h → LhOk P kb e.2.1 h) (lo : Lo) (Fn : lo.st.den → Tr (DenX lo.xs))
    (hF : ∀ d y, lo.st.wf d → (Fn d).val = some y → ∃ n, loopN m kb (fun A K => ev tt hd okDraw lp kb lr b m x A K) n (lo.st.mk' d) (decX lo.xs) = some y) : LhOk P kb b (loHd lo Fn) := by
  intro R F cst r Q G A a w K hkb h Rl hK
  unfold loHd at h
  split at h
  · rename_i d hdec
    obtain ⟨y, hy, h⟩ := Tr.run_val h
    obtain ⟨R1, hwf⟩ := Ls.dec_sound hdec Rl
    obtain ⟨n, hn⟩ := hF d y hwf hy
    refine loopN_sound htt hm hh hdr hkb hlp hn R1 ?_
    intro ex A' G' a' w' R' hd' hk
    have := decX_sound R' hd' hK hk h
    cases ex <;> exact this
  · cases h

/-! ### the loops of a function -/
abbrev Le := Nat × Code × List (Nat × Nat)
def leNo : Le := (0, .skip, [])
def fnCode (fn : Func) : Code := match fn.body with
  | some c => c
  | none => .skip
def tops (fn : Func) : List Le := loopsOf (lrOf fn) (fnCode fn) (lrOf fn) []
def subs (fn : Func) (e : Le) : List Le := loopsOf (lrOf fn) e.2.1 e.1 e.2.2
def topL (fn : Func) (j : Nat) : Le := (tops fn).getD j leNo
def subL (fn : Func) (e : Le) (j : Nat) : Le := (subs fn e).getD j leNo
def lpT : List (Nat × Lh) → Lp
  | [], _ => none
  | (g, h) :: l, f => bif Nat.beq g f then some h else lpT l f
def lpN (tt : TT) (hd : Hd) (dr : Dr) (lp : Lp) (kb : Nat) (fn : Func) (e : Le) {R : Type} (n : Nat) (A : AS) (K : Ex → AS → Option R) : Option R :=
  loopN e.1 kb (fun A K => ev tt hd dr lp kb (lrOf fn) e.2.1 e.1 e.2.2 A K) n A K
def LpsOk (P : Program) (kb : Nat) (lp : Lp) (es : List Le) (i : Nat) : Prop := ∀ j, i ≤ j → j < es.length → ∀ h, lp (firstId (es.getD j leNo).2.1) = some h → LhOk P kb (es.getD j leNo).2.1 h
theorem LpsOk.done {P : Program} {kb : Nat} {lp : Lp} {es : List Le} {i : Nat} (h : Nat.ble es.length i = true) : LpsOk P kb lp es i := fun j h1 h2 => by
  have := Nat.le_of_ble_eq_true h
  omega
theorem LpsOk.step {P : Program} {kb : Nat} {lp : Lp} {es : List Le} {i : Nat} {h0 : Lh} (e : lp (firstId (es.getD i leNo).2.1) = some h0) (h : LhOk P kb (es.getD i leNo).2.1 h0) (r : LpsOk P kb lp es (i + 1)) : LpsOk P kb lp es i := fun j h1 h2 g hg => by
  by_cases hj : j = i
  · subst hj
    rw [e] at hg
    cases hg
    exact h
  · exact r j (by omega) h2 g hg
theorem LpsOk.all {P : Program} {kb : Nat} {lp : Lp} {es : List Le} (h : LpsOk P kb lp es 0) : ∀ e ∈ es, ∀ g, lp (firstId e.2.1) = some g → LhOk P kb e.2.1 g := by
  intro e he g hg
  obtain ⟨j, hj⟩ := List.getElem?_of_mem he
  have hlt := (List.getElem?_eq_some_iff.1 hj).1
  have e0 : es.getD j leNo = e := by rw [List.getD_eq_getElem?_getD, hj]; rfl
  have := h j (Nat.zero_le _) hlt g
  rw [e0] at this
  exact this hg

/-- A loop of a function keeps to its summary. -/
theorem loop_sound {P : Program} {n : Nat} (hm : P.follows .mixedOrders = true) {cs : List (Nat × Hc)} (hcs : HcsOk P cs) {lp : Lp} {kb : Nat} {fn : Func} {e : Le} (hsub : LpsOk P kb lp (subs fn e) 0) (lo : Lo) (Fn : lo.st.den → Tr (DenX lo.xs))
    (hF : ∀ d y, lo.st.wf d → (Fn d).val = some y → ∃ k, lpN (ttOf P n) (hdT cs) (orderD (ttOf P n)) lp kb fn e k (lo.st.mk' d) (decX lo.xs) = some y) : LhOk P kb e.2.1 (loHd lo Fn) :=
  lo_sound (ttOf_ok P n) hm (hdT_ok hcs) (orderD_ok (ttOf_ok P n)) hsub.all lo Fn hF
/-- A function keeps to its contract. -/
theorem fn_sound {P : Program} {n : Nat} (hm : P.follows .mixedOrders = true) {cs : List (Nat × Hc)} (hcs : HcsOk P cs) {lp : Lp} {f : Nat} {fn : Func} (hf : P.funcs[f]? = some fn) (hname : (fn.name == "runtime.NumGoroutine") = false) (hbody : fn.body.isNone = false)
    (io : Io) (hlp : LpsOk P io.obs.length lp (tops fn) 0) (Fn : io.In → Tr io.Res) (hF : ∀ d out, io.wf d → (Fn d).val = some out → io.run (ttOf P n) (hdT cs) (orderD (ttOf P n)) lp fn d = some out) : HcOk P f (ioHd io Fn) := by
  refine io_sound (ttOf_ok P n) hm (hdT_ok hcs) (orderD_ok (ttOf_ok P n)) hf hname io lp (fun c hc => ?_) Fn (fun d out => hF d out) hbody
  have : fnCode fn = c := by unfold fnCode; rw [hc]
  have h := hlp.all
  unfold tops at h
  rw [this] at h
  exact h

end Go.Proofs.Ytnppjkijhcampaa.Sym

/- A function that defers a closure which recovers. -/
namespace Go.Proofs.Ytnppjkijhcampaa.Sym
open Go
set_option linter.unusedSimpArgs false
set_option linter.unusedVariables false

def seqL : Code → Code
  | .seq a _ => a
  | c => c
def seqR : Code → Code
  | .seq _ b => b
  | c => c
def condT : Code → Code
  | .cond _ t _ => t
  | c => c
def regOps : Code → Array Oper
  | .region _ ops _ => ops
  | _ => #[]
theorem noLoops {Pr : (Nat × Code × List (Nat × Nat)) → Prop} {lr l : Nat} {c : Code} {x : List (Nat × Nat)} (h : loopsOf lr c l x = []) : ∀ e ∈ loopsOf lr c l x, Pr e := by
  intro e he
  rw [h] at he
  cases he

noncomputable section
/-- Back in the function itself: its results. -/
def popK (tt : TT) (io : Io) (fn : Func) (A : AS) : Option io.Res := match A with
  | ⟨_, tm :: stk, ob⟩ => finRet tt io fn ⟨tm, stk, ob⟩
  | _ => none
/-- The deferred closure, with what it recovers; then the function's results. -/
def cloK (tt : TT) (hd : Hd) (okDraw : Dr) (kbG : Nat) (io : Io) (fn gfn : Func) (gops : Array Oper) (grest : Code) (ls : List Nat) (caps : List Cp) (rv : V) (A : AS) : Option io.Res :=
  evOps tt hd kbG gops ls ((⟨caps.map Cp.toV ++ List.replicate (gfn.ntmps - caps.length) .any, A.tm :: A.stk, A.ob⟩ : AS).put ((gops[0]?).bind (·.dst)) rv) fun ex A => match ex with
    | .normal => ev tt hd okDraw (fun _ => none) kbG 0 grest 0 [] A fun ex A => match ex with
      | .exit _ => none
      | .panic _ => none
      | _ => popK tt io fn A
    | _ => none
def defK (tt : TT) (hd : Hd) (okDraw : Dr) (kbG : Nat) (io : Io) (fn gfn : Func) (gops : Array Oper) (grest : Code) (ls : List Nat) (caps : List Cp) (ex : Ex) (A : AS) : Option io.Res :=
  match ex with
  | .exit _ => none
  | .panic v => cloK tt hd okDraw kbG io fn gfn gops grest ls caps v A
  | _ => cloK tt hd okDraw kbG io fn gfn gops grest ls caps (.one .nilif) A
/-- What is captured is objects alone, of keys below k. -/
def capsB (k : Nat) (caps : List Cp) : Bool := caps.all fun c => match c with
  | .ptr key _ => Nat.blt key k
  | .dat _ _ => false
def Io.runD (tt : TT) (hd : Hd) (okDraw : Dr) (lp : Lp) (kb2 kbG : Nat) (io : Io) (fn : Func) (g : Nat) (gfn : Func) (t : Nat) (d : io.In) : Option io.Res :=
  ev tt hd okDraw lp io.obs.length (lrOf fn) (seqL (fnCode fn)) (lrOf fn) [] (io.start fn.ntmps d) fun ex A => match ex with
    | .normal => evOps tt hd io.obs.length (regOps (seqL (seqR (fnCode fn)))) [0] A fun ex A => match ex with
      | .normal => match A.get t with
        | .one (.fn g' caps) => bif g' == g && capsB kb2 caps then
            ev tt hd okDraw lp kb2 (lrOf fn) (seqR (seqR (fnCode fn))) (lrOf fn) [] A
              (defK tt hd okDraw kbG io fn gfn (regOps (seqL (fnCode gfn))) (seqR (fnCode gfn)) ((List.range (regOps (seqL (fnCode gfn))).size).drop 1) caps) else none
        | _ => none
      | _ => none
    | _ => none

section
variable {P : Program} {tt : TT}
theorem evOps_app (htt : TTok P tt) {hd : Hd} (hh : HdOk P hd) {R : Type} {F : Fra} {cst : List (Array Value)} {kb : Nat} (hkb : ∀ d, F.mu0 (kb + d) = none) {ops : Array Oper} {r : R} {Q : Exit → Act → World → Prop} (l2 : List Nat) : ∀ (l : List Nat) {G : Gh} {A : AS} {a : Act} {w : World} {K : Ex → AS → Option R},
    evOps tt hd kb ops l A K = some r → Rel F G A a.tmps cst w →
    (∀ ex A' G' a' w', Rel F G' A' a'.tmps cst w' → a'.defers = a.defers → K ex A' = some r → match ex with
      | .normal => wpOps P ops Q l2 a' w'
      | .exit id => Q (.exit id) a' w'
      | .ret => Q .ret a' w'
      | .panic v => ∀ u, Rv G' w' v u → Q (.panic [{ v := u, recovered := false }]) a' w') → wpOps P ops Q (l ++ l2) a w
  | [], G, A, a, w, K, h, Rl, hK => hK .normal A G a w Rl rfl h
  | i :: is, G, A, a, w, K, h, Rl, hK => by
    simp only [evOps] at h
    simp only [List.cons_append, wpOps]
    split at h
    · cases h
    · rename_i o ho
      rw [ho]
      simp only
      rcases guarded_cases Rl h with ⟨hw, A1, R1, h1⟩ | ⟨hw, A1, R1, h1⟩
      · rw [if_pos hw]
        refine .inl (evOp_sound htt hh R1 hkb [] o h1 ?_)
        intro ex A' G' a' w' R' hd' hk
        cases ex with
        | normal => exact fun _ => evOps_app htt hh hkb l2 is hk R' (by rw [hd']; exact hK)
        | exit id => exact hK _ A' G' a' w' R' hd' hk
        | ret => exact hK _ A' G' a' w' R' hd' hk
        | panic v => exact hK _ A' G' a' w' R' hd' hk
      · rw [if_neg (by simp [hw])]
        exact evOps_app htt hh hkb l2 is h1 R1 (by rw [Act.put_defers']; exact hK)

theorem evOps_soundS (htt : TTok P tt) {hd : Hd} (hh : HdOk P hd) {R : Type} {F : Fra} {cst : List (Array Value)} {kb : Nat} (hkb : ∀ d, F.mu0 (kb + d) = none) {ops : Array Oper} {r : R} {Q : Exit → Act → List Frame → World → Prop} {cs : List Frame} : ∀ (l : List Nat) {G : Gh} {A : AS} {a : Act} {w : World} {K : Ex → AS → Option R},
    evOps tt hd kb ops l A K = some r → Rel F G A a.tmps cst w → Post F cst a.defers r K (fun e a w => Q e a cs w) → wpOpsS P ops Q l a cs w
  | [], G, A, a, w, K, h, Rl, hK => hK .normal A G a w Rl rfl h
  | i :: is, G, A, a, w, K, h, Rl, hK => by
    simp only [evOps] at h
    simp only [wpOpsS]
    split at h
    · cases h
    · rename_i o ho
      rw [ho]
      simp only
      rcases guarded_cases Rl h with ⟨hw, A1, R1, h1⟩ | ⟨hw, A1, R1, h1⟩
      · rw [if_pos hw]
        have hop : o.wp P a w (fun a' w' => wpOpsS P ops Q is a' cs w') (fun e a' w' => Q e a' cs w') := by
          refine evOp_sound htt hh R1 hkb [] o h1 ?_
          intro ex A' G' a' w' R' hd' hk
          cases ex with
          | normal => exact fun _ => evOps_soundS htt hh hkb is hk R' (by rw [hd']; exact hK)
          | exit id => exact hK _ A' G' a' w' R' hd' hk
          | ret => exact hK _ A' G' a' w' R' hd' hk
          | panic v => exact hK _ A' G' a' w' R' hd' hk
        unfold Oper.wp at hop
        split
        · rename_i w' e
          rw [e] at hop
          exact hop.elim
        · exact hop
      · rw [if_neg (by simp [hw])]
        exact evOps_soundS htt hh hkb is h1 R1 (by rw [Act.put_defers']; exact hK)

/-- The deferred closure comes to its end, and has recovered what there was. -/
theorem clo_sound (htt : TTok P tt) (hm : P.follows .mixedOrders = true) {hd : Hd} (hh : HdOk P hd) {okDraw : Dr} (hdr : DrawOk P tt okDraw) {kbG : Nat} {io : Io} {fn gfn : Func} {g : Nat} {i2 : Nat} {gops : Array Oper} {grest : Code} {ls : List Nat} {caps : List Cp}
    (hg : P.funcs[g]? = some gfn) (hgb : gfn.body = some (.seq (.region i2 gops false) grest)) (hls : List.range gops.size = 0 :: ls) {oo : Oper} (hoo : gops[0]? = some oo)
    (hop : oo.op = .call { callee := .builtin .recover, args := #[], argTypes := #[] }) (hgd : oo.guard = none) (hres : gfn.results = #[]) (hl2 : loopsOf 0 grest 0 [] = [])
    {F : Fra} {G : Gh} {A : AS} {ts : Array Value} {cst : List (Array Value)} {w : World} (hkb : ∀ d, F.mu0 (kbG + d) = none) {rv : V} {out : io.Res}
    (h : cloK tt hd okDraw kbG io fn gfn gops grest ls caps rv A = some out) (Rl : Rel F G A ts cst w) {vs : Array Value} (hvs : All2 (Rcp G w) caps vs.toList) {u : FrameMode}
    (hu : (u = .returning ∧ rv = .one .nilif) ∨ ∃ uv, u = .panicking [{ v := uv, recovered := false }] ∧ Rv G w rv uv) :
    CallsD P g vs u w fun e u' w' => e = .returned (.tuple #[]) ∧ settle u' = .returning ∧ ∃ G' A', Rel F G' A' ts cst w' ∧ finRet tt io fn A' = some out := by
  refine callsD_of_wpS hg hgb ?_
  intro c₀ cs hmode
  refine wpS_seq (wpS_region ?_)
  rw [hls]
  simp only [wpOpsS, hoo]
  rw [if_pos (by simp [Region.wanted, hgd])]
  generalize hA0 : ({ tmps := vs ++ Array.replicate (gfn.ntmps - vs.size) undef, defers := [] } : Act) = a0
  have hrun : (execOp a0.eval oo).run P w = .ok .recover w := by
    simp [execOp, hop, resolve, invoke, builtin]
  rw [hrun]
  simp only
  have R0 : Rel F G ⟨caps.map Cp.toV ++ List.replicate (gfn.ntmps - caps.length) .any, A.tm :: A.stk, A.ob⟩ a0.tmps (ts :: cst) w := by
    refine ⟨?_, ⟨Rl.tm, Rl.stk⟩, Rl.ob, Rl.gh⟩
    rw [← hA0]
    have hl := hvs.length
    simp only [Array.toList_append, Array.toList_replicate]
    refine All2.append (hvs.map_left _ fun c v hc => Cp.toV_sound hc) ?_
    rw [hl, Array.length_toList]
    generalize gfn.ntmps - vs.size = n
    induction n with
    | zero => exact trivial
    | succ n ih => exact ⟨trivial, ih⟩
  have hd0 : a0.defers = [] := by rw [← hA0]
  -- what is recovered, and how the caller's frame goes on
  obtain ⟨uv, c₁, hrec, huv, hset⟩ : ∃ uv u', (recoverD (c₀ :: cs) = some (uv, { c₀ with mode := u' } :: cs) ∨ (recoverD (c₀ :: cs) = none ∧ uv = .nilIface ∧ { c₀ with mode := u' } :: cs = c₀ :: cs)) ∧ Rv G w rv uv ∧ settle u' = .returning := by
    rcases hu with ⟨rfl, rfl⟩ | ⟨uv, rfl, huv⟩
    · refine ⟨.nilIface, .returning, .inr ⟨by simp [recoverD, hmode], rfl, ?_⟩, rfl, rfl⟩
      rw [← hmode]
    · exact ⟨uv, .panicking [{ v := uv, recovered := true }], .inl (by simp [recoverD, hmode]), huv, rfl⟩
  suffices hgoal : wpOpsS P gops (Exit.thenS (grest.wpS P (bodyPostS P gfn c₀ cs fun e u' w' => e = .returned (.tuple #[]) ∧ settle u' = .returning ∧ ∃ G' A', Rel F G' A' ts cst w' ∧ finRet tt io fn A' = some out)) (bodyPostS P gfn c₀ cs fun e u' w' => e = .returned (.tuple #[]) ∧ settle u' = .returning ∧ ∃ G' A', Rel F G' A' ts cst w' ∧ finRet tt io fn A' = some out)) ls (a0.put oo.dst uv) ({ c₀ with mode := c₁ } :: cs) w by
    rcases hrec with hrec | ⟨hrec, e1, e2⟩
    · rw [hrec]; exact hgoal
    · rw [hrec]; rw [e1, e2] at hgoal; exact hgoal
  unfold cloK at h
  rw [hoo] at h
  have R1 := R0.puts huv oo.dst
  refine evOps_soundS htt hh hkb ls h R1 ?_
  intro ex A2 G2 a2 w2 R2 hd2 h2
  cases ex with
  | normal =>
    refine wpS_of_wp (ev_sound htt hm hh hdr hkb (lp := fun _ => none) grest (noLoops hl2) h2 R2 ?_)
    intro ex A3 G3 a3 w3 R3 hd3 h3
    have fin : ∀ (hk : popK tt io fn A3 = some out),
        bodyPostS P gfn c₀ cs (fun e u' w' => e = .returned (.tuple #[]) ∧ settle u' = .returning ∧ ∃ G' A', Rel F G' A' ts cst w' ∧ finRet tt io fn A' = some out) .ret a3 ({ c₀ with mode := c₁ } :: cs) w3 := by
      intro hk
      obtain ⟨tm3, stk3, ob3⟩ := A3
      cases stk3 with
      | nil => cases hk
      | cons tm stk =>
        refine ⟨hd3.trans (hd2.trans ((Act.put_defers' _ _ _).trans hd0)), c₁, rfl, .tuple #[], by simp [results, hres], rfl, hset, G3, ⟨tm, stk, ob3⟩, ⟨R3.stk.1, R3.stk.2, R3.ob, R3.gh⟩, hk⟩
    cases ex with
    | normal => exact fin h3
    | ret => exact fin h3
    | exit i => cases h3
    | panic v => cases h3
  | exit i => cases h2
  | ret => cases h2
  | panic v => cases h2

theorem GhOk.withMu {F : Fra} {G : Gh} {w : World} (h : GhOk F G w) (m : Nat → Option Nat) (hm : ∀ key b, m key = some b → G.mu key = some b) : GhOk { F with mu0 := m } G w :=
  ⟨h.mu, h.muI, h.ow, h.owI, h.sB, ⟨h.fr.os, h.fr.tape, h.fr.output, h.fr.size, h.fr.block⟩, h.sub, h.sup, h.keep, hm⟩
theorem GhOk.back {F : Fra} {G : Gh} {w : World} {m : Nat → Option Nat} (h : GhOk { F with mu0 := m } G w) (hm : ∀ key b, F.mu0 key = some b → G.mu key = some b) : GhOk F G w :=
  ⟨h.mu, h.muI, h.ow, h.owI, h.sB, ⟨h.fr.os, h.fr.tape, h.fr.output, h.fr.size, h.fr.block⟩, h.sub, h.sup, h.keep, hm⟩
theorem defer_sound (htt : TTok P tt) (hm : P.follows .mixedOrders = true) {hd : Hd} (hh : HdOk P hd) {okDraw : Dr} (hdr : DrawOk P tt okDraw) {f : Nat} {fn : Func} (hf : P.funcs[f]? = some fn) (hname : (fn.name == "runtime.NumGoroutine") = false)
    (io : Io) {kb2 kbG : Nat} (hkb2 : io.obs.length ≤ kb2) (hkbG : kb2 ≤ kbG) {i1 : Nat} {ops1 : Array Oper} (hb : fn.body = some (.seq (seqL (fnCode fn)) (.seq (.region i1 ops1 false) (seqR (seqR (fnCode fn)))))) (he1 : regOps (seqL (seqR (fnCode fn))) = ops1) (hs1 : List.range ops1.size = [0] ++ [1])
    {o1 : Oper} {t : Nat} {aT : Array TypeId} (ho1 : ops1[1]? = some o1) (hop1 : o1.op = .defer { callee := .value (.tmp t), args := #[], argTypes := aT }) (hg1 : o1.guard = none) (hd1 : o1.dst = none)
    {lp : Lp} (hl0 : loopsOf (lrOf fn) (seqL (fnCode fn)) (lrOf fn) [] = []) (hlp : ∀ e ∈ loopsOf (lrOf fn) (seqR (seqR (fnCode fn))) (lrOf fn) [], ∀ h, lp (firstId e.2.1) = some h → LhOk P kb2 e.2.1 h)
    {g : Nat} {gfn : Func} {i2 : Nat} {gops : Array Oper} {grest : Code} (hg : P.funcs[g]? = some gfn) (hgn : (gfn.name == "runtime.NumGoroutine") = false) (hgb : gfn.body = some (.seq (.region i2 gops false) grest)) (hge : regOps (seqL (fnCode gfn)) = gops) (hgr : seqR (fnCode gfn) = grest)
    (hls : List.range gops.size = 0 :: (List.range gops.size).drop 1) {oo : Oper} (hoo : gops[0]? = some oo)
    (hop : oo.op = .call { callee := .builtin .recover, args := #[], argTypes := #[] }) (hgd : oo.guard = none) (hres : gfn.results = #[]) (hl2 : loopsOf 0 grest 0 [] = [])
    (Fn : io.In → Tr io.Res) (hF : ∀ d out, io.wf d → (Fn d).val = some out → io.runD tt hd okDraw lp kb2 kbG fn g gfn t d = some out) : HcOk P f (ioHd io Fn) := by
  refine io_soundG htt hf hname io Fn (fun d out hwf hout F G cst w vals R Rl hkb hend => ?_) (by rw [hb]; rfl)
  have hrun := hF d out hwf hout
  unfold Io.runD at hrun
  rw [he1, hge, hgr] at hrun
  have hfn : FnOk P g := ⟨gfn, hg, hgn, by rw [hgb]; rfl⟩
  refine calls_of_wp_defers hf hb ?_
  refine wp_seq (ev_sound htt hm hh hdr hkb _ (noLoops hl0) hrun Rl ?_)
  intro ex A1 G1 a1 w1 R1 hdf1 h1
  cases ex with
  | exit i => cases h1
  | ret => cases h1
  | panic v => cases h1
  | normal =>
  show (Code.seq (.region i1 ops1 false) (seqR (seqR (fnCode fn)))).wp P _ a1 w1
  refine wp_seq (wp_region ?_)
  rw [hs1]
  refine evOps_app htt hh hkb [1] [0] h1 R1 ?_
  intro ex A2 G2 a2 w2 R2 hdf2 h2
  cases ex with
  | exit i => cases h2
  | ret => cases h2
  | panic v => cases h2
  | normal =>
  simp only at h2
  split at h2
  rotate_left
  · cases h2
  rename_i g' caps eg
  cases hgg : g' == g && capsB kb2 caps with
  | false => rw [hgg] at h2; cases h2
  | true =>
  rw [hgg] at h2
  simp only [cond_true] at h2
  simp only [Bool.and_eq_true, beq_iff_eq] at hgg
  obtain ⟨hgg, hcb⟩ := hgg
  subst hgg
  have hv := R2.opd (.tmp t)
  rw [show opd A2 (.tmp t) = A2.get t from rfl, eg] at hv
  obtain ⟨vs, ev, hvs⟩ := hv
  simp only [wpOps, ho1]
  rw [if_pos (by simp [Region.wanted, hg1])]
  refine .inl ?_
  have hrun1 : (execOp a2.eval o1).run P w2 = .ok (.defer { target := .fn (.func g') vs, args := #[] }) w2 := by
    simp [execOp, hop1, resolve, ev, Deferred.ofValue]
  unfold Oper.wp
  rw [hrun1]
  simp only [Oper.upon, hd1]
  have hinv : (invoke (.fn (.func g') vs) #[]).run P = fun w => .ok (.enter g' vs) w := by
    funext w
    simp [invoke, hfn.run]
  show (seqR (seqR (fnCode fn))).wp P (bodyPostD P fn R) ({ a2 with defers := _ :: a2.defers } : Act) w2
  have hdf : a2.defers = [] := hdf2.trans hdf1
  rw [hdf]
  let m : Nat → Option Nat := fun key => if key < kb2 then G2.mu key else none
  have hm0 : ∀ key b, F.mu0 key = some b → m key = some b := fun key b hb => by
    have hlt : key < kb2 := by
      rcases Nat.lt_or_ge key io.obs.length with h | h
      · omega
      · have := hkb (key - io.obs.length)
        rw [show io.obs.length + (key - io.obs.length) = key by omega, hb] at this
        cases this
    show (if key < kb2 then G2.mu key else none) = some b
    rw [if_pos hlt]
    exact R2.gh.fix_ key b hb
  have hmk : ∀ kb, kb2 ≤ kb → ∀ d, ({ F with mu0 := m } : Fra).mu0 (kb + d) = none := fun kb hkb d => by
    show (if kb + d < kb2 then G2.mu (kb + d) else none) = none
    rw [if_neg (by omega)]
  have R2' : Rel { F with mu0 := m } G2 A2 a2.tmps cst w2 := ⟨R2.tm, R2.stk, R2.ob, R2.gh.withMu m fun key b hb => by
    have hb : (if key < kb2 then G2.mu key else none) = some b := hb
    split at hb
    · exact hb
    · cases hb⟩
  refine ev_sound htt hm hh hdr (hmk kb2 (Nat.le_refl _)) (lp := lp) _ hlp h2 (a := { a2 with defers := [{ target := .fn (.func g') vs, args := #[] }] }) R2' ?_
  intro ex A3 G3 a3 w3 R3 hdf3 h3
  have hvs3 : All2 (Rcp G3 w3) caps vs.toList := hvs.mono fun c hc v hv => by
    have hcc := List.all_eq_true.1 hcb c hc
    cases c with
    | ptr key off =>
      obtain ⟨b, hb, e⟩ := hv
      have hlt : key < kb2 := by simpa using hcc
      exact ⟨b, R3.gh.fix_ key b (by show (if key < kb2 then G2.mu key else none) = some b; rw [if_pos hlt]; exact hb), e⟩
    | dat t x => cases hcc
  have leave : ∀ (rv : V) (u : FrameMode), u ≠ .run → ((u = .returning ∧ rv = .one .nilif) ∨ ∃ uv, u = .panicking [{ v := uv, recovered := false }] ∧ Rv G3 w3 rv uv) →
      cloK tt hd okDraw kbG io fn gfn gops grest ((List.range gops.size).drop 1) caps rv A3 = some out → Leaves P fn a3.tmps R a3.defers u w3 := by
    intro rv u hne hu h
    rw [hdf3]
    refine leaves_cons hne (by rw [hinv]) ?_
    refine (clo_sound htt hm hh hdr hg hgb hls hoo hop hgd hres hl2 (hmk kbG hkbG) h R3 hvs3 hu).mono ?_
    rintro e u' w' ⟨rfl, hset, G', A', R', hfin⟩
    simp only
    rw [hset]
    exact hend .ret A' G' { tmps := a3.tmps, defers := [] } w' ⟨R'.tm, R'.stk, R'.ob, R'.gh.back fun key b hb => R'.gh.fix_ key b (hm0 key b hb)⟩ hfin
  cases ex with
  | exit i => cases h3
  | normal => exact leave _ _ (by simp) (.inl ⟨rfl, rfl⟩) h3
  | ret => exact leave _ _ (by simp) (.inl ⟨rfl, rfl⟩) h3
  | panic v => exact fun uv huv => leave _ _ (by simp) (.inr ⟨uv, rfl, huv⟩) h3
end
end
end Go.Proofs.Ytnppjkijhcampaa.Sym

/- What all contracts of this program use. -/
namespace Go.Proofs.Ytnppjkijhcampaa.Sym
open Go
set_option linter.unusedSimpArgs false
set_option linter.unusedVariables false
noncomputable section

noncomputable abbrev tt : TT := ttOf Go.Proofs.Try.prog 400
noncomputable def dr : Dr := orderD (ttOf Go.Proofs.Try.prog 400)
theorem hm : Go.Proofs.Try.prog.follows .mixedOrders = true := by kernel_rfl
noncomputable abbrev prog : Program := Go.Proofs.Try.prog

noncomputable abbrev bs : Ty := .sl 5 (.int .u8)
noncomputable abbrev dL : Sh := .dat bs false false
noncomputable abbrev dO : Sh := .dat bs false true
noncomputable abbrev dI : Sh := .dat (.int .i64) false false
noncomputable abbrev dB : Sh := .dat .bool false false
noncomputable abbrev dU : Sh := .dat (.int .u8) false false

theorem wrap_id {k : IntKind} {n : Int} (h : inR k n) : k.wrap n = n := by
  unfold inR at h
  cases k <;> simp [IntKind.wrap, IntKind.min, IntKind.max, IntKind.signed, IntKind.bits] at * <;> (try split) <;> omega
theorem wrap_i64 {n : Int} (h0 : -9223372036854775808 ≤ n) (h : n ≤ 9223372036854775807) : IntKind.wrap .i64 n = n := by
  apply wrap_id
  simp [inR, IntKind.min, IntKind.max, IntKind.signed, IntKind.bits]
  omega
theorem maxLen_eq : maxLen = 9223372036854775807 := rfl
/-- Counting up by one. -/
theorem wrap_succ {i n : Nat} (h : i < n) (hn : n ≤ maxLen) : IntKind.wrap .i64 ((i : Int) + 1) = ((i + 1 : Nat) : Int) := by
  rw [wrap_i64] <;> rw [maxLen_eq] at hn <;> omega
theorem bif_true {α : Type} {c : Bool} (h : c = true) (a b : α) : (bif c then a else b) = a := by rw [h]; rfl
theorem bif_false {α : Type} {c : Bool} (h : c = false) (a b : α) : (bif c then a else b) = b := by rw [h]; rfl
theorem getD_lt {α : Type} {xs : List α} {i : Nat} {d : α} (h : i < xs.length) : xs.getD i d = xs[i] := by simp [List.getD, h]

theorem Tr.val_ret {α : Type} (a : α) : (Tr.ret a).val = some a := rfl
theorem Tr.val_no {α : Type} : (Tr.no : Tr α).val = none := rfl
theorem Tr.val_ite {α : Type} (c : Bool) (t e : Tr α) : (Tr.ite c t e).val = if c = true then t.val else e.val := by cases c <;> rfl
theorem Tr.run_ret {α R : Type} (a : α) (K : α → Option R) : (Tr.ret a).run K = K a := rfl
theorem Tr.run_no {α R : Type} (K : α → Option R) : (Tr.no : Tr α).run K = none := rfl
theorem Tr.run_ite {α R : Type} (c : Bool) (t e : Tr α) (K : α → Option R) : (Tr.ite c t e).run K = if c = true then t.run K else e.run K := by cases c <;> rfl
theorem Tr.guard {α : Type} {c : Bool} {t : Tr α} {y : α} (h : (Tr.ite c t .no).val = some y) : c = true ∧ t.val = some y := by
  cases c with
  | true => exact ⟨rfl, h⟩
  | false => cases h
theorem toNat_of {i : Int} (h : 0 ≤ i) : ∃ n : Nat, i = n := ⟨i.toNat, by omega⟩

end
end Go.Proofs.Ytnppjkijhcampaa.Sym

/- leatref01: Same, Copy. -/
namespace Go.Proofs.Ytnppjkijhcampaa.Sym
open Go
set_option linter.unusedSimpArgs false
set_option linter.unusedVariables false
noncomputable section

/-! ### leat/leatref01.Same -/
noncomputable abbrev ioSame : Io := ⟨[dL, dL], [], [], [dB], none⟩
noncomputable def FSame (d : ioSame.In) : Tr ioSame.Res := .ret (.ret ((decide (d.1.1 = d.1.2.1), ()), ()))
noncomputable abbrev csSame : List (Nat × Hc) := []
noncomputable def hdSame : Hd := hdT csSame
noncomputable abbrev loSame_5 : Lo := ⟨⟨[.one (.hol (.sl 5 (Ty.int IntKind.u8))), .one (.hol (.sl 5 (Ty.int IntKind.u8))), .any, .any, .any, .one (.hol (.int IntKind.i64)), .any, .any, .any, .any, .any, .any, .any, .any, .any, .any, .any, .any, .any, .any, .any, .any, .any, .any, .any, .any], []⟩, [(.ret, ⟨[.any, .any, .any, .any, .one (.hol .bool), .any, .any, .any, .any, .any, .any, .any, .any, .any, .any, .any, .any, .any, .any, .any, .any, .any, .any, .any, .any, .any], []⟩), (.exit 0, ⟨[.any, .any, .any, .any, .any, .any, .any, .any, .any, .any, .any, .any, .any, .any, .any, .any, .any, .any, .any, .any, .any, .any, .any, .any, .any, .any], []⟩)]⟩
-- FSame_5 : loSame_5.st.den → Tr (DenX loSame_5.xs) | ((h2, (h3, (h4, ()))), ())
noncomputable def FSame_5 (d : loSame_5.st.den) : Tr (DenX loSame_5.xs) :=
  .ite (decide (0 ≤ d.1.2.2.1) && decide (d.1.1.length = d.1.2.1.length)) (.ite (decide (d.1.1.drop d.1.2.2.1.toNat = d.1.2.1.drop d.1.2.2.1.toNat)) (.ret (.pan (.ret ((), ((), ()))))) (.ret (.ret ((), ((false, ()), ()))))) .no
noncomputable def lpSame : Lp := lpT [(5, loHd loSame_5 FSame_5)]
noncomputable def stepSame_5 {R : Type} (h2 : List Int) (h3 : List Int) (h4 : Int) (next : List Int → List Int → Int → Option R) (out : DenX loSame_5.xs → Option R) : Option R := bif decide (h4 < (↑h2.length : Int)) then bif decide (0 ≤ h4) && decide (h4 < (↑h2.length : Int)) then bif decide (0 ≤ h4) && decide (h4 < (↑h3.length : Int)) then bif h2.getD h4.toNat 0 != h3.getD h4.toNat 0 then out (.ret ((), ((false, ()), ()))) else next (h2) (h3) (IntKind.i64.wrap (h4 + 1)) else none else none else out (.pan (.ret ((), ((), ()))))
noncomputable def itSame_5 (n : Nat) (h2 : List Int) (h3 : List Int) (h4 : Int) : Option (DenX loSame_5.xs) := lpN tt hdSame dr lpSame 0 Go.Proofs.Try.f25 (topL Go.Proofs.Try.f25 0) n (loSame_5.st.mk' ((h2, (h3, (h4, ()))), ())) (decX loSame_5.xs)
theorem slSame_5 (n : Nat) (h2 : List Int) (h3 : List Int) (h4 : Int) : itSame_5 (n + 1) h2 h3 h4 = stepSame_5 h2 h3 h4 (itSame_5 n) some := by kernel_rfl
theorem loopSame (xs ys : List Int) (hl : xs.length = ys.length) (hb : xs.length ≤ maxLen) : ∀ (k i : Nat), i ≤ xs.length → xs.length < i + k →
    itSame_5 k xs ys (i : Int) = if xs.drop i = ys.drop i then some (.pan (.ret ((), ((), ())))) else some (.ret ((), ((false, ()), ()))) := by
  intro k
  induction k with
  | zero => intro i h h'; omega
  | succ k ih =>
    intro i hi h
    rw [slSame_5]
    unfold stepSame_5
    by_cases h1 : i < xs.length
    · have h2 : i < ys.length := by omega
      rw [wrap_succ h1 hb, ih (i + 1) h1 (by omega)]
      have e : (xs.drop i = ys.drop i) ↔ (xs[i] = ys[i] ∧ xs.drop (i + 1) = ys.drop (i + 1)) := by rw [List.drop_eq_getElem_cons h1, List.drop_eq_getElem_cons h2, List.cons.injEq]
      simp only [Int.toNat_natCast, getD_lt h1, getD_lt h2]
      by_cases he : xs[i] = ys[i] <;> simp [h1, h2, he, e, cond_eq_ite]
    · rw [List.drop_of_length_le (by omega), List.drop_of_length_le (by omega)]
      simp [h1]
noncomputable def bodySame (a0 : List Int) (a1 : List Int) : Option ioSame.Res := bif (↑a0.length : Int) != (↑a1.length : Int) then some (Out.ret ((false, ()), ())) else (FSame_5 ((a0, (a1, (0, ()))), ())).run fun y => match y with | .ret ((), ((x9, ()), ())) => (some (Out.ret ((x9, ()), ()))) | .pan (.ret ((), ((), ()))) => (some (Out.ret ((true, ()), ())))
theorem runSame (a0 : List Int) (a1 : List Int) : Io.run tt hdSame dr lpSame ioSame Go.Proofs.Try.f25 ((a0, a1, ()), ()) = bodySame a0 a1 := by kernel_rfl
theorem okSame : HcOk prog 25 (ioHd ioSame FSame) := by
  refine fn_sound (n := 400) hm (cs := csSame) HcsOk.nil (lp := lpSame) (fn := Go.Proofs.Try.f25) (by kernel_rfl) (by kernel_rfl) (by kernel_rfl) ioSame
    (.step (h0 := loHd loSame_5 FSame_5) (by kernel_rfl) (loop_sound (n := 400) hm (cs := csSame) HcsOk.nil (lp := lpSame) (fn := Go.Proofs.Try.f25) (.done (by kernel_rfl)) loSame_5 FSame_5 ?_) (.done (by kernel_rfl))) FSame ?_
  · rintro ⟨⟨xs, ys, i, ⟨⟩⟩, ⟨⟩⟩ y hw hy
    obtain ⟨hg, hy⟩ := Tr.guard hy
    simp only [Bool.and_eq_true, decide_eq_true_eq] at hg
    obtain ⟨n, rfl⟩ := toNat_of hg.1
    by_cases hn : n ≤ xs.length
    · refine ⟨xs.length + 1, (loopSame xs ys hg.2 hw.1.1.1 _ n hn (by omega)).trans ?_⟩
      rw [← hy]
      simp only [Tr.val_ite, decide_eq_true_eq, Int.toNat_natCast, Tr.val_ret]
    · refine ⟨1, ?_⟩
      show itSame_5 (0 + 1) xs ys n = _
      rw [slSame_5, ← hy]
      unfold stepSame_5
      have h1 : ¬ n < xs.length := by omega
      simp [Tr.val_ite, Tr.val_ret, h1, List.drop_of_length_le (show xs.length ≤ n by omega), List.drop_of_length_le (show ys.length ≤ n by omega)]
  · rintro ⟨⟨xs, ys, ⟨⟩⟩, ⟨⟩⟩ out hw ho
    refine (runSame xs ys).trans ?_
    cases ho
    unfold bodySame
    by_cases hl : xs.length = ys.length
    · by_cases he : xs = ys
      · subst he; simp [FSame_5, Tr.run]
      · simp [FSame_5, Tr.run, hl, he]
    · have : xs ≠ ys := fun e => hl (by rw [e])
      have h2 : (xs.length : Int) ≠ ys.length := by omega
      simp [this, h2, cond_eq_ite]

end
end Go.Proofs.Ytnppjkijhcampaa.Sym

/- leatref01: Copy, Cat, Piece, Wide, Intact. -/
namespace Go.Proofs.Ytnppjkijhcampaa.Sym
open Go
set_option linter.unusedSimpArgs false
set_option linter.unusedVariables false
noncomputable section

/-- A loop that appends the bytes one by one. -/
theorem append_loop {R : Type} (it : Nat → List Int → List Int → Int → Option R) (out : List Int → Option R)
    (h : ∀ n b o i, it (n + 1) b o i = bif decide (i < (b.length : Int)) then bif decide (0 ≤ i) && decide (i < (b.length : Int)) then bif decide (o.length + [b.getD i.toNat 0].length ≤ 4294967296) then it n b (o ++ [b.getD i.toNat 0]) (IntKind.i64.wrap (i + 1)) else none else none else out o)
    (b : List Int) (hb : b.length ≤ maxLen) : ∀ (k : Nat) (o : List Int) (i : Nat), i ≤ b.length → b.length < i + k → o.length + (b.length - i) ≤ 4294967296 → it k b o i = out (o ++ b.drop i) := by
  intro k
  induction k with
  | zero => intro o i h1 h2; omega
  | succ k ih =>
    intro o i h1 h2 h3
    rw [h]
    by_cases hi : i < b.length
    · rw [wrap_succ hi hb, ih _ (i + 1) hi (by omega) (by simp; omega), List.drop_eq_getElem_cons hi]
      simp only [Int.toNat_natCast, getD_lt hi]
      have h4 : o.length + 1 ≤ 4294967296 := by omega
      simp [hi, h4]
    · rw [List.drop_of_length_le (by omega)]
      simp [hi]

/-! ### leat/leatref01.Copy -/
noncomputable abbrev ioCopy : Io := ⟨[dL], [], [], [dO], none⟩
noncomputable def FCopy (d : ioCopy.In) : Tr ioCopy.Res := .ite (decide (d.1.1.length ≤ 4294967296)) (.ret (.ret ((d.1.1, ()), ()))) .no
noncomputable abbrev csCopy : List (Nat × Hc) := []
noncomputable def hdCopy : Hd := hdT csCopy
noncomputable abbrev loCopy_4 : Lo := ⟨⟨[.one (.hol (.sl 5 (Ty.int IntKind.u8))), .any, .any, .one (.onl 5 (Ty.int IntKind.u8) 7), .one (.hol (.int IntKind.i64)), .any, .any, .any, .any, .any, .any, .any, .any, .any, .any, .any, .any, .any, .any, .any], []⟩, [(.exit 0, ⟨[.any, .any, .any, .one (.onl 5 (Ty.int IntKind.u8) 7), .any, .any, .any, .any, .any, .any, .any, .any, .any, .any, .any, .any, .any, .any, .any, .any], []⟩)]⟩
-- FCopy_4 : loCopy_4.st.den → Tr (DenX loCopy_4.xs) | ((h1, (h2, (h3, ()))), ())
noncomputable def FCopy_4 (d : loCopy_4.st.den) : Tr (DenX loCopy_4.xs) :=
  .ite (decide (d.1.2.2.1 = 0) && decide (d.1.2.1.length + d.1.1.length ≤ 4294967296)) (.ret (.ret ((), ((d.1.2.1 ++ d.1.1, ()), ())))) .no
noncomputable def lpCopy : Lp := lpT [(4, loHd loCopy_4 FCopy_4)]
noncomputable def stepCopy_4 {R : Type} (h1 : List Int) (h2 : List Int) (h3 : Int) (next : List Int → List Int → Int → Option R) (out : DenX loCopy_4.xs → Option R) : Option R := bif decide (h3 < (↑h1.length : Int)) then bif decide (0 ≤ h3) && decide (h3 < (↑h1.length : Int)) then bif decide (h2.length + [h1.getD h3.toNat 0].length ≤ 4294967296) then next (h1) (h2 ++ [h1.getD h3.toNat 0]) (IntKind.i64.wrap (h3 + 1)) else none else none else out (.ret ((), ((h2, ()), ())))
noncomputable def itCopy_4 (n : Nat) (h1 : List Int) (h2 : List Int) (h3 : Int) : Option (DenX loCopy_4.xs) := lpN tt hdCopy dr lpCopy 0 Go.Proofs.Try.f23 (topL Go.Proofs.Try.f23 0) n (loCopy_4.st.mk' ((h1, (h2, (h3, ()))), ())) (decX loCopy_4.xs)
theorem slCopy_4 (n : Nat) (h1 : List Int) (h2 : List Int) (h3 : Int) : itCopy_4 (n + 1) h1 h2 h3 = stepCopy_4 h1 h2 h3 (itCopy_4 n) some := by kernel_rfl
noncomputable def bodyCopy (a0 : List Int) : Option ioCopy.Res := (FCopy_4 ((a0, ([], (0, ()))), ())).run fun y => match y with | .ret ((), ((x8, ()), ())) => (some (Out.ret ((x8, ()), ())))
theorem runCopy (a0 : List Int) : Io.run tt hdCopy dr lpCopy ioCopy Go.Proofs.Try.f23 ((a0, ()), ()) = bodyCopy a0 := by kernel_rfl
theorem okCopy : HcOk prog 23 (ioHd ioCopy FCopy) := by
  refine fn_sound (n := 400) hm (cs := csCopy) HcsOk.nil (lp := lpCopy) (fn := Go.Proofs.Try.f23) (by kernel_rfl) (by kernel_rfl) (by kernel_rfl) ioCopy
    (.step (h0 := loHd loCopy_4 FCopy_4) (by kernel_rfl) (loop_sound (n := 400) hm (cs := csCopy) HcsOk.nil (lp := lpCopy) (fn := Go.Proofs.Try.f23) (.done (by kernel_rfl)) loCopy_4 FCopy_4 ?_) (.done (by kernel_rfl))) FCopy ?_
  · rintro ⟨⟨b, o, i, ⟨⟩⟩, ⟨⟩⟩ y hw hy
    obtain ⟨hg, hy⟩ := Tr.guard hy
    simp only [Bool.and_eq_true, decide_eq_true_eq] at hg
    obtain ⟨rfl, hl⟩ := hg
    refine ⟨b.length + 1, (append_loop (fun k b o i => itCopy_4 k b o i) (fun o => some (.ret ((), ((o, ()), ())))) (fun n b o i => slCopy_4 n b o i) b hw.1.1.1 _ o 0 (by omega) (by omega) (by omega)).trans ?_⟩
    rw [← hy]; rfl
  · rintro ⟨⟨b, ⟨⟩⟩, ⟨⟩⟩ out hw ho
    obtain ⟨hg, ho⟩ := Tr.guard ho
    cases ho
    refine (runCopy b).trans ?_
    simp only [decide_eq_true_eq] at hg
    unfold bodyCopy FCopy_4
    simp [Tr.run_ite, Tr.run_ret, hg]

/-! ### leat/leatref01.Cat -/
noncomputable abbrev ioCat : Io := ⟨[dL, dL], [], [], [dO], none⟩
noncomputable def FCat (d : ioCat.In) : Tr ioCat.Res := .ite (decide (d.1.1.length + d.1.2.1.length ≤ 4294967296)) (.ret (.ret ((d.1.1 ++ d.1.2.1, ()), ()))) .no
noncomputable abbrev csCat : List (Nat × Hc) := [(23, ioHd ioCopy FCopy)]
noncomputable def hdCat : Hd := hdT csCat
noncomputable abbrev loCat_4 : Lo := ⟨⟨[.any, .one (.hol (.sl 5 (Ty.int IntKind.u8))), .any, .any, .any, .one (.onl 5 (Ty.int IntKind.u8) 11), .one (.hol (.int IntKind.i64)), .any, .any, .any, .any, .any, .any, .any, .any, .any, .any, .any, .any, .any, .any, .any, .any], []⟩, [(.exit 0, ⟨[.any, .any, .any, .any, .any, .one (.onl 5 (Ty.int IntKind.u8) 11), .any, .any, .any, .any, .any, .any, .any, .any, .any, .any, .any, .any, .any, .any, .any, .any, .any], []⟩)]⟩
-- FCat_4 : loCat_4.st.den → Tr (DenX loCat_4.xs) | ((h2, (h3, (h4, ()))), ())
noncomputable def FCat_4 (d : loCat_4.st.den) : Tr (DenX loCat_4.xs) :=
  .ite (decide (d.1.2.2.1 = 0) && decide (d.1.2.1.length + d.1.1.length ≤ 4294967296)) (.ret (.ret ((), ((d.1.2.1 ++ d.1.1, ()), ())))) .no
noncomputable def lpCat : Lp := lpT [(4, loHd loCat_4 FCat_4)]
noncomputable def stepCat_4 {R : Type} (h2 : List Int) (h3 : List Int) (h4 : Int) (next : List Int → List Int → Int → Option R) (out : DenX loCat_4.xs → Option R) : Option R := bif decide (h4 < (↑h2.length : Int)) then bif decide (0 ≤ h4) && decide (h4 < (↑h2.length : Int)) then bif decide (h3.length + [h2.getD h4.toNat 0].length ≤ 4294967296) then next (h2) (h3 ++ [h2.getD h4.toNat 0]) (IntKind.i64.wrap (h4 + 1)) else none else none else out (.ret ((), ((h3, ()), ())))
noncomputable def itCat_4 (n : Nat) (h2 : List Int) (h3 : List Int) (h4 : Int) : Option (DenX loCat_4.xs) := lpN tt hdCat dr lpCat 0 Go.Proofs.Try.f18 (topL Go.Proofs.Try.f18 0) n (loCat_4.st.mk' ((h2, (h3, (h4, ()))), ())) (decX loCat_4.xs)
theorem slCat_4 (n : Nat) (h2 : List Int) (h3 : List Int) (h4 : Int) : itCat_4 (n + 1) h2 h3 h4 = stepCat_4 h2 h3 h4 (itCat_4 n) some := by kernel_rfl
noncomputable def bodyCat (a0 : List Int) (a1 : List Int) : Option ioCat.Res := bif decide (a0.length ≤ 4294967296) then (FCat_4 ((a1, (a0, (0, ()))), ())).run fun y => match y with | .ret ((), ((x9, ()), ())) => (some (Out.ret ((x9, ()), ()))) else none
theorem runCat (a0 : List Int) (a1 : List Int) : Io.run tt hdCat dr lpCat ioCat Go.Proofs.Try.f18 ((a0, a1, ()), ()) = bodyCat a0 a1 := by kernel_rfl
theorem okCat : HcOk prog 18 (ioHd ioCat FCat) := by
  refine fn_sound (n := 400) hm (cs := csCat) (.cons okCopy .nil) (lp := lpCat) (fn := Go.Proofs.Try.f18) (by kernel_rfl) (by kernel_rfl) (by kernel_rfl) ioCat
    (.step (h0 := loHd loCat_4 FCat_4) (by kernel_rfl) (loop_sound (n := 400) hm (cs := csCat) (.cons okCopy .nil) (lp := lpCat) (fn := Go.Proofs.Try.f18) (.done (by kernel_rfl)) loCat_4 FCat_4 ?_) (.done (by kernel_rfl))) FCat ?_
  · rintro ⟨⟨b, o, i, ⟨⟩⟩, ⟨⟩⟩ y hw hy
    obtain ⟨hg, hy⟩ := Tr.guard hy
    simp only [Bool.and_eq_true, decide_eq_true_eq] at hg
    obtain ⟨rfl, hl⟩ := hg
    refine ⟨b.length + 1, (append_loop (fun k b o i => itCat_4 k b o i) (fun o => some (.ret ((), ((o, ()), ())))) (fun n b o i => slCat_4 n b o i) b hw.1.1.1 _ o 0 (by omega) (by omega) (by omega)).trans ?_⟩
    rw [← hy]; rfl
  · rintro ⟨⟨a, b, ⟨⟩⟩, ⟨⟩⟩ out hw ho
    obtain ⟨hg, ho⟩ := Tr.guard ho
    cases ho
    refine (runCat a b).trans ?_
    simp only [decide_eq_true_eq] at hg
    have hg : a.length + b.length ≤ 4294967296 := hg
    have h1 : a.length ≤ 4294967296 := by omega
    unfold bodyCat FCat_4
    simp [Tr.run_ite, Tr.run_ret, hg, h1]

end
end Go.Proofs.Ytnppjkijhcampaa.Sym

/- leatref01: Piece, Wide, Intact. -/
namespace Go.Proofs.Ytnppjkijhcampaa.Sym
open Go
set_option linter.unusedSimpArgs false
set_option linter.unusedVariables false
noncomputable section

/-! ### leat/leatref01.Piece -/
noncomputable abbrev ioPiece : Io := ⟨[dL, dI, dI], [], [], [dO], none⟩
noncomputable def FPiece (d : ioPiece.In) : Tr ioPiece.Res := .ite (decide (d.1.1.length ≤ 4294967296)) (.ret (.ret ((((d.1.1.take d.1.2.2.1.toNat).drop d.1.2.1.toNat), ()), ()))) .no
noncomputable abbrev csPiece : List (Nat × Hc) := []
noncomputable def hdPiece : Hd := hdT csPiece
noncomputable abbrev loPiece_6 : Lo := ⟨⟨[.one (.hol (.sl 5 (Ty.int IntKind.u8))), .any, .one (.hol (.int IntKind.i64)), .any, .any, .any, .any, .one (.onl 5 (Ty.int IntKind.u8) 15), .one (.hol (.int IntKind.i64)), .any, .any, .any, .any, .any, .any, .any, .any, .any, .any, .any, .any, .any, .any, .any, .any, .any, .any, .any, .any, .any, .any, .any], []⟩, [(.exit 0, ⟨[.any, .any, .any, .any, .any, .any, .any, .one (.onl 5 (Ty.int IntKind.u8) 15), .any, .any, .any, .any, .any, .any, .any, .any, .any, .any, .any, .any, .any, .any, .any, .any, .any, .any, .any, .any, .any, .any, .any, .any], []⟩)]⟩
-- FPiece_6 : loPiece_6.st.den → Tr (DenX loPiece_6.xs) | ((h3, (h4, (h5, (h6, ())))), ())
noncomputable def FPiece_6 (d : loPiece_6.st.den) : Tr (DenX loPiece_6.xs) :=
  .ite (decide (0 ≤ d.1.2.2.2.1) && decide (d.1.2.2.1.length + d.1.1.length ≤ 4294967296)) (.ret (.ret ((), ((d.1.2.2.1 ++ (d.1.1.take d.1.2.1.toNat).drop d.1.2.2.2.1.toNat, ()), ())))) .no
noncomputable def lpPiece : Lp := lpT [(6, loHd loPiece_6 FPiece_6)]
noncomputable def stepPiece_6 {R : Type} (h3 : List Int) (h4 : Int) (h5 : List Int) (h6 : Int) (next : List Int → Int → List Int → Int → Option R) (out : DenX loPiece_6.xs → Option R) : Option R := bif decide (h6 < (↑h3.length : Int)) then bif decide (h6 < h4) then bif decide (0 ≤ h6) && decide (h6 < (↑h3.length : Int)) then bif decide (h5.length + [h3.getD h6.toNat 0].length ≤ 4294967296) then next (h3) (h4) (h5 ++ [h3.getD h6.toNat 0]) (IntKind.i64.wrap (h6 + 1)) else none else none else out (.ret ((), ((h5, ()), ()))) else out (.ret ((), ((h5, ()), ())))
noncomputable def itPiece_6 (n : Nat) (h3 : List Int) (h4 : Int) (h5 : List Int) (h6 : Int) : Option (DenX loPiece_6.xs) := lpN tt hdPiece dr lpPiece 0 Go.Proofs.Try.f19 (topL Go.Proofs.Try.f19 0) n (loPiece_6.st.mk' ((h3, (h4, (h5, (h6, ())))), ())) (decX loPiece_6.xs)
theorem slPiece_6 (n : Nat) (h3 : List Int) (h4 : Int) (h5 : List Int) (h6 : Int) : itPiece_6 (n + 1) h3 h4 h5 h6 = stepPiece_6 h3 h4 h5 h6 (itPiece_6 n) some := by kernel_rfl
theorem loopPiece (b : List Int) (hi : Int) (hb : b.length ≤ maxLen) : ∀ (k : Nat) (o : List Int) (i : Nat), b.length < i + k → o.length + (b.length - i) ≤ 4294967296 → 0 < k →
    itPiece_6 k b hi o i = some (.ret ((), ((o ++ (b.take hi.toNat).drop i, ()), ()))) := by
  intro k
  induction k with
  | zero => intro o i _ _ h; omega
  | succ k ih =>
    intro o i h1 h2 _
    rw [slPiece_6]
    unfold stepPiece_6
    by_cases hl : i < b.length
    · by_cases hh : (i : Int) < hi
      · rw [wrap_succ hl hb, ih _ (i + 1) (by omega) (by simp; omega) (by omega)]
        have hlt : i < (b.take hi.toNat).length := by simp; omega
        rw [List.drop_eq_getElem_cons hlt]
        simp only [Int.toNat_natCast, getD_lt hl, List.getElem_take]
        have h4 : o.length + 1 ≤ 4294967296 := by omega
        simp [hl, hh, h4]
      · rw [List.drop_of_length_le (by simp; omega)]
        simp [hl, hh]
    · rw [List.drop_of_length_le (by simp; omega)]
      simp [hl]
noncomputable def bodyPiece (a0 : List Int) (a1 : Int) (a2 : Int) : Option ioPiece.Res := bif decide (a1 < 0) then (FPiece_6 ((a0, (a2, ([], (0, ())))), ())).run fun y => match y with | .ret ((), ((x13, ()), ())) => (some (Out.ret ((x13, ()), ()))) else (FPiece_6 ((a0, (a2, ([], (a1, ())))), ())).run fun y => match y with | .ret ((), ((x18, ()), ())) => (some (Out.ret ((x18, ()), ())))
theorem runPiece (a0 : List Int) (a1 : Int) (a2 : Int) : Io.run tt hdPiece dr lpPiece ioPiece Go.Proofs.Try.f19 ((a0, a1, a2, ()), ()) = bodyPiece a0 a1 a2 := by kernel_rfl
theorem okPiece : HcOk prog 19 (ioHd ioPiece FPiece) := by
  refine fn_sound (n := 400) hm (cs := csPiece) HcsOk.nil (lp := lpPiece) (fn := Go.Proofs.Try.f19) (by kernel_rfl) (by kernel_rfl) (by kernel_rfl) ioPiece
    (.step (h0 := loHd loPiece_6 FPiece_6) (by kernel_rfl) (loop_sound (n := 400) hm (cs := csPiece) HcsOk.nil (lp := lpPiece) (fn := Go.Proofs.Try.f19) (.done (by kernel_rfl)) loPiece_6 FPiece_6 ?_) (.done (by kernel_rfl))) FPiece ?_
  · rintro ⟨⟨b, hi, o, i, ⟨⟩⟩, ⟨⟩⟩ y hw hy
    obtain ⟨hg, hy⟩ := Tr.guard hy
    simp only [Bool.and_eq_true, decide_eq_true_eq] at hg
    obtain ⟨n, rfl⟩ := toNat_of hg.1
    refine ⟨b.length + 1, (loopPiece b hi hw.1.1.1 _ o n (by omega) (by have := hg.2; omega) (by omega)).trans ?_⟩
    rw [← hy]; rfl
  · rintro ⟨⟨(b : List Int), (lo : Int), (hi : Int), ⟨⟩⟩, ⟨⟩⟩ out hw ho
    obtain ⟨hg, ho⟩ := Tr.guard ho
    cases ho
    refine (runPiece b lo hi).trans ?_
    simp only [decide_eq_true_eq] at hg
    have hg : b.length ≤ 4294967296 := hg
    unfold bodyPiece FPiece_6
    by_cases h0 : lo < 0
    · have : lo.toNat = 0 := by omega
      simp [Tr.run_ite, Tr.run_ret, hg, h0, this]
    · have h1 : 0 ≤ lo := by omega
      simp [Tr.run_ite, Tr.run_ret, hg, h0, h1]

/-! ### leat/leatref01.Wide -/
noncomputable abbrev ioWide : Io := ⟨[dL], [], [], [dO], none⟩
noncomputable def spMarks : List Int := (List.range 96).map fun i => ((i * 7 + 13 : Nat) : Int) % 256
noncomputable def FWide (d : ioWide.In) : Tr ioWide.Res := .ite (decide (d.1.1.length ≤ 4294967000)) (.ret (.ret ((d.1.1 ++ spMarks, ()), ()))) .no
noncomputable abbrev csWide : List (Nat × Hc) := [(23, ioHd ioCopy FCopy)]
noncomputable def hdWide : Hd := hdT csWide
noncomputable abbrev loWide_4 : Lo := ⟨⟨[.any, .any, .any, .one (.onl 5 (Ty.int IntKind.u8) 7), .one (.hol (.int IntKind.i64)), .any, .any, .any, .any, .any, .any, .any, .any, .any, .any, .any, .any, .any, .any], []⟩, [(.exit 0, ⟨[.any, .any, .any, .one (.onl 5 (Ty.int IntKind.u8) 7), .any, .any, .any, .any, .any, .any, .any, .any, .any, .any, .any, .any, .any, .any, .any], []⟩)]⟩
-- FWide_4 : loWide_4.st.den → Tr (DenX loWide_4.xs) | ((h1, (h2, ())), ())
noncomputable def FWide_4 (d : loWide_4.st.den) : Tr (DenX loWide_4.xs) :=
  .ite (decide (d.1.2.1 = 0) && decide (d.1.1.length ≤ 4294967000)) (.ret (.ret ((), ((d.1.1 ++ spMarks, ()), ())))) .no
noncomputable def lpWide : Lp := lpT [(4, loHd loWide_4 FWide_4)]
noncomputable def stepWide_4 {R : Type} (h1 : List Int) (h2 : Int) (next : List Int → Int → Option R) (out : DenX loWide_4.xs → Option R) : Option R := bif decide (h2 < 96) then bif decide (h1.length + [IntKind.u8.wrap (IntKind.i64.wrap (IntKind.i64.wrap (h2 * 7) + 13))].length ≤ 4294967296) then next (h1 ++ [IntKind.u8.wrap (IntKind.i64.wrap (IntKind.i64.wrap (h2 * 7) + 13))]) (IntKind.i64.wrap (h2 + 1)) else none else out (.ret ((), ((h1, ()), ())))
noncomputable def itWide_4 (n : Nat) (h1 : List Int) (h2 : Int) : Option (DenX loWide_4.xs) := lpN tt hdWide dr lpWide 0 Go.Proofs.Try.f10 (topL Go.Proofs.Try.f10 0) n (loWide_4.st.mk' ((h1, (h2, ())), ())) (decX loWide_4.xs)
theorem slWide_4 (n : Nat) (h1 : List Int) (h2 : Int) : itWide_4 (n + 1) h1 h2 = stepWide_4 h1 h2 (itWide_4 n) some := by kernel_rfl
theorem loopWide : ∀ (k : Nat) (o : List Int) (i : Nat), 96 < i + k → i ≤ 96 → o.length + (96 - i) ≤ 4294967296 →
    itWide_4 k o i = some (.ret ((), ((o ++ spMarks.drop i, ()), ()))) := by
  intro k
  induction k with
  | zero => intro o i _ _ h; omega
  | succ k ih =>
    intro o i h1 h2 h3
    rw [slWide_4]
    unfold stepWide_4
    by_cases hl : i < 96
    · have hlen : spMarks.length = 96 := by simp [spMarks]
      rw [wrap_succ hl (by rw [maxLen_eq]; omega), ih _ (i + 1) (by omega) (by omega) (by simp; omega)]
      rw [List.drop_eq_getElem_cons (show i < spMarks.length by omega)]
      have e1 : IntKind.i64.wrap ((i : Int) * 7) = (i : Int) * 7 := by rw [wrap_i64] <;> omega
      have e2 : IntKind.i64.wrap ((i : Int) * 7 + 13) = (i : Int) * 7 + 13 := by rw [wrap_i64] <;> omega
      have e3 : IntKind.u8.wrap ((i : Int) * 7 + 13) = spMarks[i]'(by omega) := by
        simp [IntKind.wrap, IntKind.signed, IntKind.bits, spMarks]
      rw [e1, e2, e3]
      have h4 : o.length + 1 ≤ 4294967296 := by omega
      have h5 : (i : Int) < 96 := by omega
      simp [h5, h4]
    · have hlen : spMarks.length = 96 := by simp [spMarks]
      rw [List.drop_of_length_le (by omega)]
      have h5 : ¬ (i : Int) < 96 := by omega
      simp [h5]
noncomputable def bodyWide (a0 : List Int) : Option ioWide.Res := bif decide (a0.length ≤ 4294967296) then (FWide_4 ((a0, (0, ())), ())).run fun y => match y with | .ret ((), ((x6, ()), ())) => (some (Out.ret ((x6, ()), ()))) else none
theorem runWide (a0 : List Int) : Io.run tt hdWide dr lpWide ioWide Go.Proofs.Try.f10 ((a0, ()), ()) = bodyWide a0 := by kernel_rfl
theorem okWide : HcOk prog 10 (ioHd ioWide FWide) := by
  refine fn_sound (n := 400) hm (cs := csWide) (.cons okCopy .nil) (lp := lpWide) (fn := Go.Proofs.Try.f10) (by kernel_rfl) (by kernel_rfl) (by kernel_rfl) ioWide
    (.step (h0 := loHd loWide_4 FWide_4) (by kernel_rfl) (loop_sound (n := 400) hm (cs := csWide) (.cons okCopy .nil) (lp := lpWide) (fn := Go.Proofs.Try.f10) (.done (by kernel_rfl)) loWide_4 FWide_4 ?_) (.done (by kernel_rfl))) FWide ?_
  · rintro ⟨⟨o, i, ⟨⟩⟩, ⟨⟩⟩ y hw hy
    obtain ⟨hg, hy⟩ := Tr.guard hy
    simp only [Bool.and_eq_true, decide_eq_true_eq] at hg
    obtain ⟨rfl, hl⟩ := hg
    refine ⟨97, (loopWide _ o 0 (by omega) (by omega) (by omega)).trans ?_⟩
    rw [← hy]; rfl
  · rintro ⟨⟨b, ⟨⟩⟩, ⟨⟩⟩ out hw ho
    obtain ⟨hg, ho⟩ := Tr.guard ho
    cases ho
    refine (runWide b).trans ?_
    simp only [decide_eq_true_eq] at hg
    have hg : b.length ≤ 4294967000 := hg
    have h1 : b.length ≤ 4294967296 := by omega
    unfold bodyWide FWide_4
    simp [Tr.run_ite, Tr.run_ret, hg, h1]

/-! ### leat/leatref01.Intact -/
noncomputable abbrev ioIntact : Io := ⟨[dL, dL], [], [], [dB], none⟩
noncomputable def FIntact (d : ioIntact.In) : Tr ioIntact.Res := .ite (decide (d.1.2.1.length ≤ 4294967000)) (.ret (.ret ((decide (d.1.1 = d.1.2.1 ++ spMarks), ()), ()))) .no
noncomputable abbrev csIntact : List (Nat × Hc) := [(10, ioHd ioWide FWide), (25, ioHd ioSame FSame)]
noncomputable def hdIntact : Hd := hdT csIntact
noncomputable def lpIntact : Lp := lpT []

noncomputable def bodyIntact (a0 : List Int) (a1 : List Int) : Option ioIntact.Res := bif decide (a1.length ≤ 4294967000) then some (Out.ret ((decide (a0 = a1 ++ spMarks), ()), ())) else none
theorem runIntact (a0 : List Int) (a1 : List Int) : Io.run tt hdIntact dr lpIntact ioIntact Go.Proofs.Try.f14 ((a0, a1, ()), ()) = bodyIntact a0 a1 := by kernel_rfl
theorem okIntact : HcOk prog 14 (ioHd ioIntact FIntact) := by
  refine fn_sound (n := 400) hm (cs := csIntact) (.cons okWide (.cons okSame .nil)) (lp := lpIntact) (fn := Go.Proofs.Try.f14) (by kernel_rfl) (by kernel_rfl) (by kernel_rfl) ioIntact (.done (by kernel_rfl)) FIntact ?_
  rintro ⟨⟨a, b, ⟨⟩⟩, ⟨⟩⟩ out hw ho
  obtain ⟨hg, ho⟩ := Tr.guard ho
  cases ho
  refine (runIntact a b).trans ?_
  unfold bodyIntact
  simp only [decide_eq_true_eq] at hg
  have hg : b.length ≤ 4294967000 := hg
  simp [hg]

end
end Go.Proofs.Ytnppjkijhcampaa.Sym

/- leatref02: numbers in digits of 128. -/
namespace Go.Proofs.Ytnppjkijhcampaa.Sym
open Go
set_option linter.unusedSimpArgs false
set_option linter.unusedVariables false
noncomputable section

/-- Folded and unfolded. -/
noncomputable def spZig (v : Int) : Int := if 0 ≤ v then 2 * v else -2 * v - 1
noncomputable def spZag (u : Int) : Int := if u % 2 = 0 then u / 2 else -(u / 2) - 1
theorem wrap_u64 {n : Int} (h0 : 0 ≤ n) (h : n < 18446744073709551616) : IntKind.wrap .u64 n = n := by
  apply wrap_id
  simp [inR, IntKind.min, IntKind.max, IntKind.signed, IntKind.bits]
  omega
theorem wrap_u8 {n : Int} (h0 : 0 ≤ n) (h : n < 256) : IntKind.wrap .u8 n = n := by
  apply wrap_id
  simp [inR, IntKind.min, IntKind.max, IntKind.signed, IntKind.bits]
  omega
theorem inR_i64 {n : Int} : inR .i64 n ↔ -9223372036854775808 ≤ n ∧ n ≤ 9223372036854775807 := by
  simp [inR, IntKind.min, IntKind.max, IntKind.signed, IntKind.bits]
theorem inR_u64 {n : Int} : inR .u64 n ↔ 0 ≤ n ∧ n ≤ 18446744073709551615 := by
  simp [inR, IntKind.min, IntKind.max, IntKind.signed, IntKind.bits]
theorem inR_u8 {n : Int} : inR .u8 n ↔ 0 ≤ n ∧ n ≤ 255 := by
  simp [inR, IntKind.min, IntKind.max, IntKind.signed, IntKind.bits]
noncomputable abbrev dV : Sh := .dat (.int .u64) false false
noncomputable abbrev d64 : Sh := .dat (.int .i64) false false

/-! ### leat/leatref02.Zig -/
noncomputable abbrev iorZig : Io := ⟨[d64], [], [], [dV], none⟩
noncomputable def FrZig (d : iorZig.In) : Tr iorZig.Res := .ret (.ret ((spZig d.1.1, ()), ()))
noncomputable abbrev csrZig : List (Nat × Hc) := []
noncomputable def hdrZig : Hd := hdT csrZig
noncomputable def lprZig : Lp := lpT []

noncomputable def bodyrZig (a0 : Int) : Option iorZig.Res := bif decide (0 ≤ a0) then some (Out.ret ((IntKind.u64.wrap (IntKind.u64.wrap a0 * 2), ()), ())) else some (Out.ret ((IntKind.u64.wrap (IntKind.u64.wrap (IntKind.u64.wrap (IntKind.i64.wrap (0 - IntKind.i64.wrap (a0 + 1))) * 2) + 1), ()), ()))
theorem runrZig (a0 : Int) : Io.run tt hdrZig dr lprZig iorZig Go.Proofs.Try.f64 ((a0, ()), ()) = bodyrZig a0 := by kernel_rfl
theorem okrZig : HcOk prog 64 (ioHd iorZig FrZig) := by
  refine fn_sound (n := 400) hm (cs := csrZig) HcsOk.nil (lp := lprZig) (fn := Go.Proofs.Try.f64) (by kernel_rfl) (by kernel_rfl) (by kernel_rfl) iorZig (.done (by kernel_rfl)) FrZig ?_
  rintro ⟨⟨(v : Int), ⟨⟩⟩, ⟨⟩⟩ out hw ho
  cases ho
  refine (runrZig v).trans ?_
  have hr := inR_i64.1 (show inR .i64 v from hw.1.1)
  unfold bodyrZig
  show _ = some (Out.ret ((spZig v, ()), ()))
  unfold spZig
  by_cases h : 0 ≤ v
  · rw [bif_true (by simpa using h), if_pos h, wrap_u64 (n := v) h (by omega), wrap_u64 (n := v * 2) (by omega) (by omega), Int.mul_comm]
  · rw [bif_false (by simpa using h), if_neg h, wrap_i64 (n := v + 1) (by omega) (by omega), wrap_i64 (n := 0 - (v + 1)) (by omega) (by omega), wrap_u64 (n := 0 - (v + 1)) (by omega) (by omega),
      wrap_u64 (n := (0 - (v + 1)) * 2) (by omega) (by omega), wrap_u64 (n := (0 - (v + 1)) * 2 + 1) (by omega) (by omega), show (0 - (v + 1)) * 2 + 1 = -2 * v - 1 by omega]

/-! ### leat/leatref02.Zag -/
noncomputable abbrev iorZag : Io := ⟨[dV], [], [], [d64], none⟩
noncomputable def FrZag (d : iorZag.In) : Tr iorZag.Res := .ret (.ret ((spZag d.1.1, ()), ()))
noncomputable abbrev csrZag : List (Nat × Hc) := []
noncomputable def hdrZag : Hd := hdT csrZag
noncomputable def lprZag : Lp := lpT []

noncomputable def bodyrZag (a0 : Int) : Option iorZag.Res := bif IntKind.u64.wrap (a0.tmod 2) == 0 then some (Out.ret ((IntKind.i64.wrap (IntKind.u64.wrap (a0.tdiv 2)), ()), ())) else some (Out.ret ((IntKind.i64.wrap (IntKind.i64.wrap (0 - IntKind.i64.wrap (IntKind.u64.wrap (a0.tdiv 2))) - 1), ()), ()))
theorem runrZag (a0 : Int) : Io.run tt hdrZag dr lprZag iorZag Go.Proofs.Try.f54 ((a0, ()), ()) = bodyrZag a0 := by kernel_rfl
theorem okrZag : HcOk prog 54 (ioHd iorZag FrZag) := by
  refine fn_sound (n := 400) hm (cs := csrZag) HcsOk.nil (lp := lprZag) (fn := Go.Proofs.Try.f54) (by kernel_rfl) (by kernel_rfl) (by kernel_rfl) iorZag (.done (by kernel_rfl)) FrZag ?_
  rintro ⟨⟨(u : Int), ⟨⟩⟩, ⟨⟩⟩ out hw ho
  cases ho
  refine (runrZag u).trans ?_
  have hr := inR_u64.1 (show inR .u64 u from hw.1.1)
  unfold bodyrZag
  show _ = some (Out.ret ((spZag u, ()), ()))
  unfold spZag
  have e1 : u.tmod 2 = u % 2 := Int.tmod_eq_emod_of_nonneg hr.1
  have e2 : u.tdiv 2 = u / 2 := Int.tdiv_eq_ediv_of_nonneg hr.1
  rw [e1, e2, wrap_u64 (n := u % 2) (by omega) (by omega), wrap_u64 (n := u / 2) (by omega) (by omega), wrap_i64 (n := u / 2) (by omega) (by omega), wrap_i64 (n := 0 - u / 2) (by omega) (by omega), wrap_i64 (n := 0 - u / 2 - 1) (by omega) (by omega)]
  by_cases h : u % 2 = 0
  · simp [h]
  · simp [h, cond_eq_ite]

/-! ### leat/leatref02.Put -/
noncomputable abbrev iorPut : Io := ⟨[d64], [], [], [dO], none⟩
noncomputable def spHi : Nat → Int → List Int
  | 0, _ => []
  | n + 1, u => if 127 < u then (u % 128 + 128) :: spHi n (u / 128) else []
noncomputable def spLo : Nat → Int → Int
  | 0, u => u
  | n + 1, u => if 127 < u then spLo n (u / 128) else u
/-- The digits, the lowest first. -/
noncomputable def spDig (u : Int) : List Int := spHi 10 u ++ [spLo 10 u]
theorem spLo_le : ∀ (n : Nat) (u : Int), 0 ≤ u → u < 128 ^ n → 0 ≤ spLo n u ∧ spLo n u ≤ 127
  | 0, u, h0, h => by simp only [spLo]; simp at h; omega
  | n + 1, u, h0, h => by
    simp only [spLo]
    split
    · refine spLo_le n (u / 128) (by omega) ?_
      rw [Int.pow_succ] at h
      exact Int.ediv_lt_of_lt_mul (by omega) h
    · omega
noncomputable def FrPut (d : iorPut.In) : Tr iorPut.Res := .ret (.ret ((spDig (spZig d.1.1), ()), ()))
noncomputable abbrev csrPut : List (Nat × Hc) := [(64, ioHd iorZig FrZig)]
noncomputable def hdrPut : Hd := hdT csrPut
noncomputable abbrev lorPut_4 : Lo := ⟨⟨[.any, .any, .any, .one (.hol (.int IntKind.u64)), .one (.onl 5 (Ty.int IntKind.u8) 9), .any, .any, .any, .any, .any, .any, .any, .any, .any, .any, .any, .any, .any, .any, .any, .any, .any, .any, .any, .any], []⟩, [(.exit 0, ⟨[.any, .any, .any, .one (.hol (.int IntKind.u64)), .one (.onl 5 (Ty.int IntKind.u8) 9), .any, .any, .any, .any, .any, .any, .any, .any, .any, .any, .any, .any, .any, .any, .any, .any, .any, .any, .any, .any], []⟩)]⟩
-- FrPut_4 : lorPut_4.st.den → Tr (DenX lorPut_4.xs) | ((h1, (h2, ())), ())
noncomputable def FrPut_4 (d : lorPut_4.st.den) : Tr (DenX lorPut_4.xs) :=
  .ite (decide (d.1.2.1.length = 0)) (.ret (.ret ((), ((spLo 10 d.1.1, (spHi 10 d.1.1, ())), ())))) .no
noncomputable def lprPut : Lp := lpT [(4, loHd lorPut_4 FrPut_4)]
noncomputable def steprPut_4 {R : Type} (h1 : Int) (h2 : List Int) (next : Int → List Int → Option R) (out : DenX lorPut_4.xs → Option R) : Option R := bif decide (127 < h1) then bif decide (h2.length + [IntKind.u8.wrap (IntKind.u64.wrap (IntKind.u64.wrap (h1.tmod 128) + 128))].length ≤ 4294967296) then next (IntKind.u64.wrap (h1.tdiv 128)) (h2 ++ [IntKind.u8.wrap (IntKind.u64.wrap (IntKind.u64.wrap (h1.tmod 128) + 128))]) else none else out (.ret ((), ((h1, (h2, ())), ())))
noncomputable def itrPut_4 (n : Nat) (h1 : Int) (h2 : List Int) : Option (DenX lorPut_4.xs) := lpN tt hdrPut dr lprPut 0 Go.Proofs.Try.f44 (topL Go.Proofs.Try.f44 0) n (lorPut_4.st.mk' ((h1, (h2, ())), ())) (decX lorPut_4.xs)
theorem slrPut_4 (n : Nat) (h1 : Int) (h2 : List Int) : itrPut_4 (n + 1) h1 h2 = steprPut_4 h1 h2 (itrPut_4 n) some := by kernel_rfl
theorem looprPut : ∀ (n k : Nat) (u : Int) (o : List Int), 0 ≤ u → u < 128 ^ n → u < 18446744073709551616 → n < k → o.length + n ≤ 4294967296 →
    itrPut_4 k u o = some (.ret ((), ((spLo n u, (o ++ spHi n u, ())), ()))) := by
  intro n
  induction n with
  | zero =>
    intro k u o h0 h1 h2 h3 h4
    obtain ⟨k, rfl⟩ : ∃ m, k = m + 1 := ⟨k - 1, by omega⟩
    rw [slrPut_4]
    unfold steprPut_4
    have : ¬ 127 < u := by simp at h1; omega
    simp [this, spLo, spHi]
  | succ n ih =>
    intro k u o h0 h1 h2 h3 h4
    obtain ⟨k, rfl⟩ : ∃ m, k = m + 1 := ⟨k - 1, by omega⟩
    rw [slrPut_4]
    unfold steprPut_4
    by_cases h : 127 < u
    · have e1 : u.tmod 128 = u % 128 := Int.tmod_eq_emod_of_nonneg h0
      have e2 : u.tdiv 128 = u / 128 := Int.tdiv_eq_ediv_of_nonneg h0
      rw [e1, e2, wrap_u64 (n := u % 128) (by omega) (by omega), wrap_u64 (n := u % 128 + 128) (by omega) (by omega), wrap_u8 (n := u % 128 + 128) (by omega) (by omega), wrap_u64 (n := u / 128) (by omega) (by omega)]
      rw [ih k (u / 128) _ (by omega) (by rw [Int.pow_succ] at h1; exact Int.ediv_lt_of_lt_mul (by omega) h1) (by omega) (by omega) (by simp; omega)]
      have h5 : o.length + 1 ≤ 4294967296 := by omega
      simp [h, h5, spLo, spHi]
    · simp [h, spLo, spHi]
noncomputable def bodyrPut (a0 : Int) : Option iorPut.Res := (FrPut_4 ((spZig a0, ([], ())), ())).run fun y => match y with | .ret ((), ((x7, x8, ()), ())) => (bif decide (x8.length + [IntKind.u8.wrap x7].length ≤ 4294967296) then some (Out.ret ((x8 ++ [IntKind.u8.wrap x7], ()), ())) else none)
theorem runrPut (a0 : Int) : Io.run tt hdrPut dr lprPut iorPut Go.Proofs.Try.f44 ((a0, ()), ()) = bodyrPut a0 := by kernel_rfl
theorem okrPut : HcOk prog 44 (ioHd iorPut FrPut) := by
  refine fn_sound (n := 400) hm (cs := csrPut) (.cons okrZig .nil) (lp := lprPut) (fn := Go.Proofs.Try.f44) (by kernel_rfl) (by kernel_rfl) (by kernel_rfl) iorPut
    (.step (h0 := loHd lorPut_4 FrPut_4) (by kernel_rfl) (loop_sound (n := 400) hm (cs := csrPut) (.cons okrZig .nil) (lp := lprPut) (fn := Go.Proofs.Try.f44) (.done (by kernel_rfl)) lorPut_4 FrPut_4 ?_) (.done (by kernel_rfl))) FrPut ?_
  · rintro ⟨⟨(u : Int), (o : List Int), ⟨⟩⟩, ⟨⟩⟩ y hw hy
    obtain ⟨hg, hy⟩ := Tr.guard hy
    have hg : o = [] := List.length_eq_zero_iff.1 (by simpa using hg)
    subst hg
    have hr := inR_u64.1 (show inR .u64 u from hw.1.1)
    refine ⟨11, (looprPut 10 11 u [] hr.1 (by omega) (by omega) (by omega) (by simp)).trans ?_⟩
    rw [← hy]; rfl
  · rintro ⟨⟨(v : Int), ⟨⟩⟩, ⟨⟩⟩ out hw ho
    cases ho
    refine (runrPut v).trans ?_
    have hr := inR_i64.1 (show inR .i64 v from hw.1.1)
    have hz : 0 ≤ spZig v ∧ spZig v < 18446744073709551616 := by unfold spZig; split <;> omega
    obtain ⟨h1, h2⟩ := spLo_le 10 (spZig v) hz.1 (by have := hz.2; omega)
    have h3 : ∀ (n : Nat) (u : Int), (spHi n u).length ≤ n := by
      intro n
      induction n with
      | zero => intro u; simp [spHi]
      | succ n ih => intro u; simp only [spHi]; split; have := ih (u / 128); simp; omega; simp
    have h4 := h3 10 (spZig v)
    have h5 : (spHi 10 (spZig v)).length ≤ 4294967295 := by omega
    unfold bodyrPut FrPut_4
    simp [Tr.run_ite, Tr.run_ret, wrap_u8 (n := spLo 10 (spZig v)) h1 (by omega), h5, spDig]

end
end Go.Proofs.Ytnppjkijhcampaa.Sym

/- leatref02: numbers read. -/
namespace Go.Proofs.Ytnppjkijhcampaa.Sym
open Go
set_option linter.unusedSimpArgs false
set_option linter.unusedVariables false
noncomputable section

/-- The last byte's place and the error. -/
noncomputable def spRd (most : Nat) (top : Int) : List Int → Nat → Int × Int
  | [], _ => (0, 1)
  | c :: l, i => if i + 1 = most ∧ top < c then (0, 21) else if c < 128 then (if c = 0 ∧ 0 < i then (0, 20) else ((i : Int), 0)) else spRd most top l (i + 1)
/-- Bytes as digits of 128, the lowest first. -/
noncomputable def spVal : List Int → Int
  | [] => 0
  | c :: l => c % 128 + 128 * spVal l

/-! ### leat/leatref02.get -/
noncomputable abbrev iorget : Io := ⟨[dL, dI, dI, dU], [], [], [dI, dI], none⟩
noncomputable def Frget (d : iorget.In) : Tr iorget.Res :=
  .ite (decide (d.1.2.1 < 0) || decide ((d.1.1.length : Int) < d.1.2.1)) (.ret (.ret ((0, 3, ()), ())))
    (.ite (decide (1 ≤ d.1.2.2.1) && (decide (d.1.2.2.1 ≤ 10) && decide (d.1.2.2.2.1 < 128)))
      (.ite (decide ((spRd d.1.2.2.1.toNat d.1.2.2.2.1 (d.1.1.drop d.1.2.1.toNat) 0).2 = 0))
        (.ret (.ret ((d.1.2.1 + (spRd d.1.2.2.1.toNat d.1.2.2.2.1 (d.1.1.drop d.1.2.1.toNat) 0).1, 0, ()), ())))
        (.ret (.ret ((0, (spRd d.1.2.2.1.toNat d.1.2.2.2.1 (d.1.1.drop d.1.2.1.toNat) 0).2, ()), ())))) .no)
noncomputable abbrev csrget : List (Nat × Hc) := []
noncomputable def hdrget : Hd := hdT csrget
noncomputable abbrev lorget_5 : Lo := ⟨⟨[.one (.hol (.sl 5 (Ty.int IntKind.u8))), .one (.hol (.int IntKind.i64)), .one (.hol (.int IntKind.i64)), .one (.hol (.int IntKind.u8)), .any, .any, .any, .any, .any, .any, .one (.hol (.int IntKind.i64)), .any, .any, .any, .any, .any, .any, .any, .any, .any, .any, .any, .any, .any, .any, .any, .any, .any, .any, .any, .any, .any, .any, .any, .any, .any, .any, .any, .any, .any, .any, .any, .any, .any, .any, .any, .any, .any, .any, .any, .any, .any, .any, .any, .any, .any, .any], []⟩, [(.ret, ⟨[.any, .any, .any, .any, .any, .any, .any, .any, .one (.hol (.int IntKind.i64)), .one (.hol (.int IntKind.i64)), .any, .any, .any, .any, .any, .any, .any, .any, .any, .any, .any, .any, .any, .any, .any, .any, .any, .any, .any, .any, .any, .any, .any, .any, .any, .any, .any, .any, .any, .any, .any, .any, .any, .any, .any, .any, .any, .any, .any, .any, .any, .any, .any, .any, .any, .any, .any], []⟩), (.exit 0, ⟨[.any, .any, .any, .any, .any, .any, .any, .any, .any, .any, .any, .any, .any, .any, .any, .any, .any, .any, .any, .any, .any, .any, .any, .any, .any, .any, .any, .any, .any, .any, .any, .any, .any, .any, .any, .any, .any, .any, .any, .any, .any, .any, .any, .any, .any, .any, .any, .any, .any, .any, .any, .any, .any, .any, .any, .any, .any], []⟩)]⟩
-- Frget_5 : lorget_5.st.den → Tr (DenX lorget_5.xs) | ((h4, (h5, (h6, (h7, (h8, ()))))), ())
noncomputable def Frget_5 (d : lorget_5.st.den) : Tr (DenX lorget_5.xs) :=
  .ite (decide (0 ≤ d.1.2.1) && (decide (d.1.2.1 ≤ (d.1.1.length : Int)) && (decide (1 ≤ d.1.2.2.1) && (decide (d.1.2.2.1 ≤ 10) && (decide (d.1.2.2.2.1 < 128) && decide (d.1.2.2.2.2.1 = 0))))))
      (.ite (decide ((spRd d.1.2.2.1.toNat d.1.2.2.2.1 (d.1.1.drop d.1.2.1.toNat) 0).2 = 0))
        (.ret (.ret ((), ((d.1.2.1 + (spRd d.1.2.2.1.toNat d.1.2.2.2.1 (d.1.1.drop d.1.2.1.toNat) 0).1, (0, ())), ()))))
        (.ret (.ret ((), ((0, ((spRd d.1.2.2.1.toNat d.1.2.2.2.1 (d.1.1.drop d.1.2.1.toNat) 0).2, ())), ()))))) .no
noncomputable def lprget : Lp := lpT [(5, loHd lorget_5 Frget_5)]
noncomputable def steprget_5 {R : Type} (h4 : List Int) (h5 : Int) (h6 : Int) (h7 : Int) (h8 : Int) (next : List Int → Int → Int → Int → Int → Option R) (out : DenX lorget_5.xs → Option R) : Option R := bif decide (h8 < h6) then bif decide (IntKind.i64.wrap ((↑h4.length : Int) - h5) ≤ h8) then out (.ret ((), ((0, (1, ())), ()))) else bif decide (0 ≤ IntKind.i64.wrap (h5 + h8)) && decide (IntKind.i64.wrap (h5 + h8) < (↑h4.length : Int)) then bif h8 == IntKind.i64.wrap (h6 - 1) then bif decide (h7 < h4.getD (IntKind.i64.wrap (h5 + h8)).toNat 0) then out (.ret ((), ((0, (21, ())), ()))) else bif decide (h4.getD (IntKind.i64.wrap (h5 + h8)).toNat 0 < 128) then bif h4.getD (IntKind.i64.wrap (h5 + h8)).toNat 0 == 0 then bif decide (0 < h8) then out (.ret ((), ((0, (20, ())), ()))) else out (.ret ((), ((IntKind.i64.wrap (h5 + h8), (0, ())), ()))) else out (.ret ((), ((IntKind.i64.wrap (h5 + h8), (0, ())), ()))) else next (h4) (h5) (h6) (h7) (IntKind.i64.wrap (h8 + 1)) else bif decide (h4.getD (IntKind.i64.wrap (h5 + h8)).toNat 0 < 128) then bif h4.getD (IntKind.i64.wrap (h5 + h8)).toNat 0 == 0 then bif decide (0 < h8) then out (.ret ((), ((0, (20, ())), ()))) else out (.ret ((), ((IntKind.i64.wrap (h5 + h8), (0, ())), ()))) else out (.ret ((), ((IntKind.i64.wrap (h5 + h8), (0, ())), ()))) else next (h4) (h5) (h6) (h7) (IntKind.i64.wrap (h8 + 1)) else none else out (.pan (.ret ((), ((), ()))))
noncomputable def itrget_5 (n : Nat) (h4 : List Int) (h5 : Int) (h6 : Int) (h7 : Int) (h8 : Int) : Option (DenX lorget_5.xs) := lpN tt hdrget dr lprget 0 Go.Proofs.Try.f53 (topL Go.Proofs.Try.f53 0) n (lorget_5.st.mk' ((h4, (h5, (h6, (h7, (h8, ()))))), ())) (decX lorget_5.xs)
theorem slrget_5 (n : Nat) (h4 : List Int) (h5 : Int) (h6 : Int) (h7 : Int) (h8 : Int) : itrget_5 (n + 1) h4 h5 h6 h7 h8 = steprget_5 h4 h5 h6 h7 h8 (itrget_5 n) some := by kernel_rfl
theorem looprget (b : List Int) (at_ most : Nat) (top : Int) (hb : b.length ≤ maxLen) (ha : at_ ≤ b.length) (hm : most ≤ 10) (ht : top < 128) : ∀ (k i : Nat), i < most → most < i + k →
    itrget_5 k b at_ most top i = some (.ret ((), ((if (spRd most top (b.drop (at_ + i)) i).2 = 0 then at_ + (spRd most top (b.drop (at_ + i)) i).1 else 0, ((spRd most top (b.drop (at_ + i)) i).2, ())), ()))) := by
  intro k
  rw [maxLen_eq] at hb
  induction k with
  | zero => intro i h1 h2; omega
  | succ k ih =>
    intro i h1 h2
    rw [slrget_5]
    unfold steprget_5
    have e1 : IntKind.i64.wrap ((b.length : Int) - at_) = (b.length : Int) - at_ := wrap_i64 (by omega) (by omega)
    have e3 : IntKind.i64.wrap ((most : Int) - 1) = (most : Int) - 1 := wrap_i64 (by omega) (by omega)
    have e4 : IntKind.i64.wrap ((i : Int) + 1) = ((i + 1 : Nat) : Int) := by rw [wrap_i64] <;> omega
    rw [bif_true (by simpa using h1), e1, e3, e4]
    by_cases hl : (b.length : Int) - at_ ≤ i
    · rw [bif_true (by simpa using hl), List.drop_of_length_le (by omega)]
      simp [spRd]
    · have hlt : at_ + i < b.length := by omega
      have e2 : IntKind.i64.wrap ((at_ : Int) + i) = ((at_ + i : Nat) : Int) := by rw [wrap_i64] <;> omega
      rw [bif_false (by simpa using hl), e2, List.drop_eq_getElem_cons hlt]
      simp only [Int.toNat_natCast, getD_lt hlt]
      rw [bif_true (by simp; omega)]
      generalize b[at_ + i] = c
      have hnext : i + 1 < most → itrget_5 k b at_ most top ((i + 1 : Nat) : Int) = _ := fun h => ih (i + 1) h (by omega)
      have e5 : at_ + i + 1 = at_ + (i + 1) := by omega
      rw [← e5] at hnext
      simp only [spRd]
      by_cases h3 : i + 1 = most
      · have h3' : ((i : Int) == (most : Int) - 1) = true := by simp; omega
        rw [bif_true h3']
        by_cases h4 : top < c
        · simp [h3, h4]
        · have h5 : c < 128 := by omega
          by_cases h6 : c = 0
          · subst h6
            by_cases h7 : 0 < i <;> simp [h3, h4, h7, cond_eq_ite]
          · simp [h3, h4, h5, h6, cond_eq_ite]
      · have h3' : ((i : Int) == (most : Int) - 1) = false := by simp; omega
        rw [bif_false h3']
        by_cases h5 : c < 128
        · by_cases h6 : c = 0 <;> by_cases h7 : 0 < i <;> simp [h3, h5, h6, h7, cond_eq_ite]
        · rw [hnext (by omega)]
          simp [h3, h5, cond_eq_ite]
noncomputable def bodyrget (a0 : List Int) (a1 : Int) (a2 : Int) (a3 : Int) : Option iorget.Res := bif decide (a1 < 0) then some (Out.ret ((0, 3, ()), ())) else bif decide ((↑a0.length : Int) < a1) then some (Out.ret ((0, 3, ()), ())) else (Frget_5 ((a0, (a1, (a2, (a3, (0, ()))))), ())).run fun y => match y with | .ret ((), ((x35, x36, ()), ())) => (some (Out.ret ((x35, x36, ()), ()))) | .pan (.ret ((), ((), ()))) => (some (Out.ret ((0, 21, ()), ())))
theorem runrget (a0 : List Int) (a1 : Int) (a2 : Int) (a3 : Int) : Io.run tt hdrget dr lprget iorget Go.Proofs.Try.f53 ((a0, a1, a2, a3, ()), ()) = bodyrget a0 a1 a2 a3 := by kernel_rfl
theorem okrget : HcOk prog 53 (ioHd iorget Frget) := by
  refine fn_sound (n := 400) hm (cs := csrget) .nil (lp := lprget) (fn := Go.Proofs.Try.f53) (by kernel_rfl) (by kernel_rfl) (by kernel_rfl) iorget
    (.step (h0 := loHd lorget_5 Frget_5) (by kernel_rfl) (loop_sound (n := 400) hm (cs := csrget) .nil (lp := lprget) (fn := Go.Proofs.Try.f53) (.done (by kernel_rfl)) lorget_5 Frget_5 ?_) (.done (by kernel_rfl))) Frget ?_
  · rintro ⟨⟨(b : List Int), (p : Int), (m : Int), (t : Int), (i : Int), ⟨⟩⟩, ⟨⟩⟩ y hw hy
    obtain ⟨hg, hy⟩ := Tr.guard hy
    simp only [Bool.and_eq_true, decide_eq_true_eq] at hg
    obtain ⟨h1, h2, h3, h4, h5, rfl⟩ := hg
    have h1 : (0 : Int) ≤ p := h1
    have h2 : p ≤ (b.length : Int) := h2
    have h3 : (1 : Int) ≤ m := h3
    have h4 : m ≤ (10 : Int) := h4
    have h5 : t < (128 : Int) := h5
    obtain ⟨p, rfl⟩ := toNat_of h1
    obtain ⟨m, rfl⟩ := toNat_of (show 0 ≤ m by omega)
    refine ⟨m + 1, (looprget b p m t hw.1.1.1 (by omega) (by omega) h5 _ 0 (by omega) (by omega)).trans ?_⟩
    rw [← hy]
    simp only [Tr.val_ite, Tr.val_ret, Int.toNat_natCast, Nat.add_zero, decide_eq_true_eq]
    by_cases he : (spRd m t (b.drop p) 0).2 = 0 <;> simp [he]
  · rintro ⟨⟨(b : List Int), (p : Int), (m : Int), (t : Int), ⟨⟩⟩, ⟨⟩⟩ out hw ho
    refine (runrget b p m t).trans ?_
    rw [← ho]
    unfold bodyrget Frget Frget_5
    simp only [Tr.val_ite, Tr.val_ret, Tr.val_no, Tr.run_ite, Tr.run_ret, Tr.run_no, Bool.and_eq_true, Bool.or_eq_true, decide_eq_true_eq, cond_eq_ite]
    by_cases h1 : p < 0
    · simp [h1]
    · by_cases h2 : (b.length : Int) < p
      · simp [h1, h2]
      · have h3 : 0 ≤ p := by omega
        have h4 : p ≤ (b.length : Int) := by omega
        simp only [h1, h2, h3, h4, if_false, if_true, or_self, true_and, and_true]

end
end Go.Proofs.Ytnppjkijhcampaa.Sym

/- leatref02: values, Get, Get32. -/
namespace Go.Proofs.Ytnppjkijhcampaa.Sym
open Go
set_option linter.unusedSimpArgs false
set_option linter.unusedVariables false
noncomputable section

theorem wrap_u64_mod (n : Int) : IntKind.wrap .u64 n = n % 18446744073709551616 := by simp [IntKind.wrap, IntKind.signed, IntKind.bits]
theorem mod_step (M x y z : Int) : ((x % M) * y + z) % M = (x * y + z) % M := by
  have h := Int.emod_add_mul_ediv x M
  have e : x * y + z = ((x % M) * y + z) + M * (x / M * y) := by
    conv => lhs; rw [← h]
    rw [Int.add_mul, Int.mul_assoc]; omega
  rw [e, Int.add_mul_emod_self_left]
theorem spVal_snoc (c : Int) : ∀ l : List Int, spVal (l ++ [c]) = spVal l + 128 ^ l.length * (c % 128)
  | [] => by simp [spVal]
  | x :: l => by
    simp only [List.cons_append, spVal, spVal_snoc c l, List.length_cons, Int.pow_succ]
    rw [Int.mul_add, Int.mul_comm (128 ^ l.length) 128, Int.mul_assoc]
    omega
theorem slice_succ (b : List Int) (p m : Nat) (h : p + m < b.length) : (b.take (p + (m + 1))).drop p = (b.take (p + m)).drop p ++ [b[p + m]] := by
  rw [← Nat.add_assoc, List.take_succ_eq_append_getElem h, List.drop_append_of_le_length (by simp; omega)]

noncomputable abbrev d32 : Sh := .dat (.int .i32) false false

/-! ### leat/leatref02.value -/
noncomputable abbrev iorvalue : Io := ⟨[dL, dI, dI], [], [], [dV], none⟩
noncomputable def Frvalue (d : iorvalue.In) : Tr iorvalue.Res :=
  .ite (decide ((0 : Int) ≤ d.1.2.1) && (decide ((d.1.2.1 : Int) - 1 ≤ d.1.2.2.1) && decide ((d.1.2.2.1 : Int) < (d.1.1.length : Int))))
    (.ret (.ret ((spVal ((d.1.1.take (d.1.2.2.1 + 1).toNat).drop d.1.2.1.toNat) % 18446744073709551616, ()), ()))) .no
noncomputable abbrev csrvalue : List (Nat × Hc) := []
noncomputable def hdrvalue : Hd := hdT csrvalue
noncomputable abbrev lorvalue_4 : Lo := ⟨⟨[.one (.hol (.sl 5 (Ty.int IntKind.u8))), .one (.hol (.int IntKind.i64)), .any, .any, .any, .any, .any, .one (.hol (.int IntKind.u64)), .one (.hol (.int IntKind.i64)), .any, .any, .any, .any, .any, .any, .any, .any, .any, .any, .any, .any, .any, .any, .any, .any], []⟩, [(.exit 0, ⟨[.any, .any, .any, .any, .any, .any, .any, .one (.hol (.int IntKind.u64)), .any, .any, .any, .any, .any, .any, .any, .any, .any, .any, .any, .any, .any, .any, .any, .any, .any], []⟩)]⟩
-- Frvalue_4 : lorvalue_4.st.den → Tr (DenX lorvalue_4.xs) | ((h3, (h4, (h5, (h6, ())))), ())
noncomputable def Frvalue_4 (d : lorvalue_4.st.den) : Tr (DenX lorvalue_4.xs) :=
  .ite (decide ((0 : Int) ≤ d.1.2.1) && (decide ((d.1.2.1 : Int) - 1 ≤ d.1.2.2.2.1) && (decide ((d.1.2.2.2.1 : Int) < (d.1.1.length : Int)) && decide (d.1.2.2.1 = (0 : Int)))))
    (.ret (.ret ((), ((spVal ((d.1.1.take (d.1.2.2.2.1 + 1).toNat).drop d.1.2.1.toNat) % 18446744073709551616, ()), ())))) .no
noncomputable def lprvalue : Lp := lpT [(4, loHd lorvalue_4 Frvalue_4)]
noncomputable def steprvalue_4 {R : Type} (h3 : List Int) (h4 : Int) (h5 : Int) (h6 : Int) (next : List Int → Int → Int → Int → Option R) (out : DenX lorvalue_4.xs → Option R) : Option R := bif decide (h4 ≤ h6) then bif decide (0 ≤ h6) && decide (h6 < (↑h3.length : Int)) then next (h3) (h4) (IntKind.u64.wrap (IntKind.u64.wrap (h5 * 128) + IntKind.u64.wrap (IntKind.u8.wrap (Int.tmod (h3.getD h6.toNat 0) 128)))) (IntKind.i64.wrap (h6 - 1)) else none else out (.ret ((), ((h5, ()), ())))
noncomputable def itrvalue_4 (n : Nat) (h3 : List Int) (h4 : Int) (h5 : Int) (h6 : Int) : Option (DenX lorvalue_4.xs) := lpN tt hdrvalue dr lprvalue 0 Go.Proofs.Try.f55 (topL Go.Proofs.Try.f55 0) n (lorvalue_4.st.mk' ((h3, (h4, (h5, (h6, ())))), ())) (decX lorvalue_4.xs)
theorem slrvalue_4 (n : Nat) (h3 : List Int) (h4 : Int) (h5 : Int) (h6 : Int) : itrvalue_4 (n + 1) h3 h4 h5 h6 = steprvalue_4 h3 h4 h5 h6 (itrvalue_4 n) some := by kernel_rfl
theorem looprvalue (b : List Int) (p : Nat) (hb : b.length ≤ maxLen) (hc : ∀ c ∈ b, 0 ≤ c ∧ c ≤ 255) : ∀ (m k : Nat) (u : Int), p + m ≤ b.length → m < k →
    itrvalue_4 k b p (u % 18446744073709551616) ((p : Int) + m - 1) = some (.ret ((), (((u * 128 ^ m + spVal ((b.take (p + m)).drop p)) % 18446744073709551616, ()), ()))) := by
  rw [maxLen_eq] at hb
  intro m
  induction m with
  | zero =>
    intro k u h1 h2
    obtain ⟨k, rfl⟩ : ∃ m, k = m + 1 := ⟨k - 1, by omega⟩
    rw [slrvalue_4]
    unfold steprvalue_4
    rw [bif_false (by simp; omega), List.drop_of_length_le (by simp; omega)]
    simp [spVal]
  | succ m ih =>
    intro k u h1 h2
    obtain ⟨k, rfl⟩ : ∃ m, k = m + 1 := ⟨k - 1, by omega⟩
    rw [slrvalue_4]
    unfold steprvalue_4
    have hlt : p + m < b.length := by omega
    have e0 : (p : Int) + ((m + 1 : Nat) : Int) - 1 = ((p + m : Nat) : Int) := by omega
    have hbc := hc b[p + m] (List.getElem_mem hlt)
    rw [e0, bif_true (by simp; omega), bif_true (by simp; omega)]
    simp only [Int.toNat_natCast, getD_lt hlt]
    have e1 : Int.tmod b[p + m] 128 = b[p + m] % 128 := Int.tmod_eq_emod_of_nonneg hbc.1
    have e2 : IntKind.i64.wrap (((p + m : Nat) : Int) - 1) = (p : Int) + m - 1 := by rw [wrap_i64] <;> omega
    rw [e1, e2, wrap_u8 (n := b[p + m] % 128) (by omega) (by omega), wrap_u64 (n := b[p + m] % 128) (by omega) (by omega), wrap_u64_mod, wrap_u64_mod]
    have e3 : (u % 18446744073709551616 * 128 % 18446744073709551616 + b[p + m] % 128) % 18446744073709551616 = (u * 128 + b[p + m] % 128) % 18446744073709551616 := by omega
    rw [e3, ih k (u * 128 + b[p + m] % 128) (by omega) (by omega), slice_succ b p m hlt, spVal_snoc]
    have e4 : ((b.take (p + m)).drop p).length = m := by simp; omega
    rw [e4, Int.pow_succ, Int.add_mul, Int.mul_assoc, Int.mul_comm 128 (128 ^ m), Int.mul_comm (b[p + m] % 128) (128 ^ m), Int.add_assoc, Int.add_comm (128 ^ m * (b[p + m] % 128))]
noncomputable def bodyrvalue (a0 : List Int) (a1 : Int) (a2 : Int) : Option iorvalue.Res := (Frvalue_4 ((a0, (a1, (0, (a2, ())))), ())).run fun y => match y with | .ret ((), ((x12, ()), ())) => (some (Out.ret ((x12, ()), ())))
theorem runrvalue (a0 : List Int) (a1 : Int) (a2 : Int) : Io.run tt hdrvalue dr lprvalue iorvalue Go.Proofs.Try.f55 ((a0, a1, a2, ()), ()) = bodyrvalue a0 a1 a2 := by kernel_rfl
theorem okrvalue : HcOk prog 55 (ioHd iorvalue Frvalue) := by
  refine fn_sound (n := 400) hm (cs := csrvalue) .nil (lp := lprvalue) (fn := Go.Proofs.Try.f55) (by kernel_rfl) (by kernel_rfl) (by kernel_rfl) iorvalue
    (.step (h0 := loHd lorvalue_4 Frvalue_4) (by kernel_rfl) (loop_sound (n := 400) hm (cs := csrvalue) .nil (lp := lprvalue) (fn := Go.Proofs.Try.f55) (.done (by kernel_rfl)) lorvalue_4 Frvalue_4 ?_) (.done (by kernel_rfl))) Frvalue ?_
  · rintro ⟨⟨(b : List Int), (p : Int), (u : Int), (i : Int), ⟨⟩⟩, ⟨⟩⟩ y hw hy
    obtain ⟨hg, hy⟩ := Tr.guard hy
    simp only [Bool.and_eq_true, decide_eq_true_eq] at hg
    obtain ⟨h1, h2, h3, rfl⟩ := hg
    have h1 : (0 : Int) ≤ p := h1
    have h2 : p - 1 ≤ i := h2
    have h3 : i < (b.length : Int) := h3
    obtain ⟨p, rfl⟩ := toNat_of h1
    obtain ⟨m, rfl⟩ : ∃ m : Nat, i = p + m - 1 := ⟨(i + 1 - p).toNat, by omega⟩
    have hc : ∀ c ∈ b, 0 ≤ c ∧ c ≤ 255 := fun c hc => inR_u8.1 (hw.1.1.2 c hc)
    refine ⟨m + 1, (looprvalue b p hw.1.1.1 hc m (m + 1) 0 (by omega) (by omega)).trans ?_⟩
    rw [← hy]
    have e : ((p : Int) + m - 1 + 1).toNat = p + m := by omega
    simp only [Tr.val_ret, e, Int.toNat_natCast, Int.zero_mul, Int.zero_add]
  · rintro ⟨⟨(b : List Int), (p : Int), (i : Int), ⟨⟩⟩, ⟨⟩⟩ out hw ho
    obtain ⟨hg, ho⟩ := Tr.guard ho
    cases ho
    refine (runrvalue b p i).trans ?_
    simp only [Bool.and_eq_true, decide_eq_true_eq] at hg
    unfold bodyrvalue Frvalue_4
    simp only [Tr.run_ite, Tr.run_ret, Bool.and_eq_true, decide_eq_true_eq]
    rw [if_pos ⟨hg.1, hg.2.1, hg.2.2, trivial⟩]

end
end Go.Proofs.Ytnppjkijhcampaa.Sym

/- leatref02: Get, Get32. -/
namespace Go.Proofs.Ytnppjkijhcampaa.Sym
open Go
set_option linter.unusedSimpArgs false
set_option linter.unusedVariables false
noncomputable section

/-- A number read: the value folded, the place behind, the error. -/
noncomputable def spGet (most : Nat) (top : Int) (b : List Int) (p : Int) : Int × Int × Int :=
  if p < 0 ∨ (b.length : Int) < p then (0, 0, 3)
  else if (spRd most top (b.drop p.toNat) 0).2 = 0 then
    (spVal ((b.drop p.toNat).take ((spRd most top (b.drop p.toNat) 0).1 + 1).toNat) % 18446744073709551616, p + (spRd most top (b.drop p.toNat) 0).1 + 1, 0)
  else (0, 0, (spRd most top (b.drop p.toNat) 0).2)

theorem spRd_le (m : Nat) (t : Int) : ∀ (l : List Int) (i : Nat), (spRd m t l i).2 = 0 → (i : Int) ≤ (spRd m t l i).1 ∧ (spRd m t l i).1 < i + l.length
  | [], i, h => by simp [spRd] at h
  | c :: l, i, h => by
    simp only [spRd] at h ⊢
    split at h
    · cases h
    · rename_i h1
      rw [if_neg h1]
      split at h
      · rename_i h2
        rw [if_pos h2]
        split at h
        · cases h
        · rename_i h3
          rw [if_neg h3]
          simp only [List.length_cons]
          omega
      · rename_i h2
        rw [if_neg h2]
        have := spRd_le m t l (i + 1) h
        simp only [List.length_cons]
        omega

/-! ### leat/leatref02.Get -/
noncomputable abbrev iorGet : Io := ⟨[dL, dI], [], [], [d64, dI, dI], none⟩
noncomputable def FrGet (d : iorGet.In) : Tr iorGet.Res :=
  .ite (decide ((spGet 10 1 d.1.1 d.1.2.1).2.2 = 0)) (.ret (.ret ((spZag (spGet 10 1 d.1.1 d.1.2.1).1, (spGet 10 1 d.1.1 d.1.2.1).2.1, 0, ()), ())))
    (.ret (.ret ((0, 0, (spGet 10 1 d.1.1 d.1.2.1).2.2, ()), ())))
noncomputable abbrev csrGet : List (Nat × Hc) := [(53, ioHd iorget Frget), (55, ioHd iorvalue Frvalue), (54, ioHd iorZag FrZag)]
noncomputable def hdrGet : Hd := hdT csrGet
noncomputable def lprGet : Lp := lpT []

noncomputable def bodyrGet (a0 : List Int) (a1 : Int) : Option iorGet.Res := bif decide (a1 < 0) || decide ((↑a0.length : Int) < a1) then some (Out.ret ((0, 0, 3, ()), ())) else bif decide ((spRd (Int.toNat 10) 1 (List.drop a1.toNat a0) 0).snd = 0) then bif decide (0 ≤ a1) && (decide (a1 - 1 ≤ a1 + (spRd (Int.toNat 10) 1 (List.drop a1.toNat a0) 0).fst) && decide (a1 + (spRd (Int.toNat 10) 1 (List.drop a1.toNat a0) 0).fst < (↑a0.length : Int))) then some (Out.ret ((spZag (spVal (List.drop a1.toNat (List.take (Int.toNat (a1 + (spRd (Int.toNat 10) 1 (List.drop a1.toNat a0) 0).fst + 1)) a0)) % 18446744073709551616), IntKind.i64.wrap (a1 + (spRd (Int.toNat 10) 1 (List.drop a1.toNat a0) 0).fst + 1), 0, ()), ())) else none else bif (spRd (Int.toNat 10) 1 (List.drop a1.toNat a0) 0).snd != 0 then some (Out.ret ((0, 0, (spRd (Int.toNat 10) 1 (List.drop a1.toNat a0) 0).snd, ()), ())) else bif decide (0 ≤ a1) && (decide (a1 - 1 ≤ 0) && decide (0 < (↑a0.length : Int))) then some (Out.ret ((spZag (spVal (List.drop a1.toNat (List.take (Int.toNat (0 + 1)) a0)) % 18446744073709551616), IntKind.i64.wrap (0 + 1), 0, ()), ())) else none
theorem runrGet (a0 : List Int) (a1 : Int) : Io.run tt hdrGet dr lprGet iorGet Go.Proofs.Try.f56 ((a0, a1, ()), ()) = bodyrGet a0 a1 := by kernel_rfl
theorem okrGet : HcOk prog 56 (ioHd iorGet FrGet) := by
  refine fn_sound (n := 400) hm (cs := csrGet) (.cons okrget (.cons okrvalue (.cons okrZag .nil))) (lp := lprGet) (fn := Go.Proofs.Try.f56) (by kernel_rfl) (by kernel_rfl) (by kernel_rfl) iorGet (.done (by kernel_rfl)) FrGet ?_
  rintro ⟨⟨(b : List Int), (p : Int), ⟨⟩⟩, ⟨⟩⟩ out hw ho
  refine (runrGet b p).trans ?_
  rw [← ho]
  have hb : b.length ≤ maxLen := hw.1.1.1
  rw [maxLen_eq] at hb
  unfold bodyrGet FrGet
  simp only [Tr.val_ite, Tr.val_ret, spGet, decide_eq_true_eq, show Int.toNat 10 = 10 from rfl]
  by_cases h1 : p < 0 ∨ (b.length : Int) < p
  · rw [bif_true (by simpa using h1)]
    simp only [if_pos h1]
    rfl
  · rw [bif_false (by simpa using h1)]
    simp only [if_neg h1]
    by_cases h2 : (spRd 10 1 (b.drop p.toNat) 0).2 = 0
    · have h3 := spRd_le 10 1 (b.drop p.toNat) 0 h2
      rw [bif_true (by simpa using h2)]
      simp only [if_pos h2, if_true]
      simp only [List.length_drop] at h3
      generalize (spRd 10 1 (b.drop p.toNat) 0).1 = k at h3 ⊢
      have h4 : 0 ≤ p := by omega
      rw [bif_true (by simp; omega), wrap_i64 (n := p + k + 1) (by omega) (by omega), List.drop_take, show (p + k + 1).toNat - p.toNat = (k + 1).toNat by omega]
    · rw [bif_false (by simpa using h2), bif_true (by simpa using h2)]
      simp only [if_neg h2]

/-! ### leat/leatref02.Get32 -/
noncomputable abbrev iorGet32 : Io := ⟨[dL, dI], [], [], [d32, dI, dI], none⟩
noncomputable def FrGet32 (d : iorGet32.In) : Tr iorGet32.Res :=
  .ite (decide ((spGet 5 15 d.1.1 d.1.2.1).2.2 = 0)) (.ret (.ret ((IntKind.wrap .i32 (spZag (spGet 5 15 d.1.1 d.1.2.1).1), (spGet 5 15 d.1.1 d.1.2.1).2.1, 0, ()), ())))
    (.ret (.ret ((0, 0, (spGet 5 15 d.1.1 d.1.2.1).2.2, ()), ())))
noncomputable abbrev csrGet32 : List (Nat × Hc) := csrGet
noncomputable def hdrGet32 : Hd := hdT csrGet32
noncomputable def lprGet32 : Lp := lpT []

noncomputable def bodyrGet32 (a0 : List Int) (a1 : Int) : Option iorGet32.Res := bif decide (a1 < 0) || decide ((↑a0.length : Int) < a1) then some (Out.ret ((0, 0, 3, ()), ())) else bif decide ((spRd (Int.toNat 5) 15 (List.drop a1.toNat a0) 0).snd = 0) then bif decide (0 ≤ a1) && (decide (a1 - 1 ≤ a1 + (spRd (Int.toNat 5) 15 (List.drop a1.toNat a0) 0).fst) && decide (a1 + (spRd (Int.toNat 5) 15 (List.drop a1.toNat a0) 0).fst < (↑a0.length : Int))) then some (Out.ret ((IntKind.i32.wrap (spZag (spVal (List.drop a1.toNat (List.take (Int.toNat (a1 + (spRd (Int.toNat 5) 15 (List.drop a1.toNat a0) 0).fst + 1)) a0)) % 18446744073709551616)), IntKind.i64.wrap (a1 + (spRd (Int.toNat 5) 15 (List.drop a1.toNat a0) 0).fst + 1), 0, ()), ())) else none else bif (spRd (Int.toNat 5) 15 (List.drop a1.toNat a0) 0).snd != 0 then some (Out.ret ((0, 0, (spRd (Int.toNat 5) 15 (List.drop a1.toNat a0) 0).snd, ()), ())) else bif decide (0 ≤ a1) && (decide (a1 - 1 ≤ 0) && decide (0 < (↑a0.length : Int))) then some (Out.ret ((IntKind.i32.wrap (spZag (spVal (List.drop a1.toNat (List.take (Int.toNat (0 + 1)) a0)) % 18446744073709551616)), IntKind.i64.wrap (0 + 1), 0, ()), ())) else none
theorem runrGet32 (a0 : List Int) (a1 : Int) : Io.run tt hdrGet32 dr lprGet32 iorGet32 Go.Proofs.Try.f32 ((a0, a1, ()), ()) = bodyrGet32 a0 a1 := by kernel_rfl
theorem okrGet32 : HcOk prog 32 (ioHd iorGet32 FrGet32) := by
  refine fn_sound (n := 400) hm (cs := csrGet32) (.cons okrget (.cons okrvalue (.cons okrZag .nil))) (lp := lprGet32) (fn := Go.Proofs.Try.f32) (by kernel_rfl) (by kernel_rfl) (by kernel_rfl) iorGet32 (.done (by kernel_rfl)) FrGet32 ?_
  rintro ⟨⟨(b : List Int), (p : Int), ⟨⟩⟩, ⟨⟩⟩ out hw ho
  refine (runrGet32 b p).trans ?_
  rw [← ho]
  have hb : b.length ≤ maxLen := hw.1.1.1
  rw [maxLen_eq] at hb
  unfold bodyrGet32 FrGet32
  simp only [Tr.val_ite, Tr.val_ret, spGet, decide_eq_true_eq, show Int.toNat 5 = 5 from rfl]
  by_cases h1 : p < 0 ∨ (b.length : Int) < p
  · rw [bif_true (by simpa using h1)]
    simp only [if_pos h1]
    rfl
  · rw [bif_false (by simpa using h1)]
    simp only [if_neg h1]
    by_cases h2 : (spRd 5 15 (b.drop p.toNat) 0).2 = 0
    · have h3 := spRd_le 5 15 (b.drop p.toNat) 0 h2
      rw [bif_true (by simpa using h2)]
      simp only [if_pos h2, if_true]
      simp only [List.length_drop] at h3
      generalize (spRd 5 15 (b.drop p.toNat) 0).1 = k at h3 ⊢
      have h4 : 0 ≤ p := by omega
      rw [bif_true (by simp; omega), wrap_i64 (n := p + k + 1) (by omega) (by omega), List.drop_take, show (p + k + 1).toNat - p.toNat = (k + 1).toNat by omega]
    · rw [bif_false (by simpa using h2), bif_true (by simpa using h2)]
      simp only [if_neg h2]


end
end Go.Proofs.Ytnppjkijhcampaa.Sym

/- vint: numbers. -/
namespace Go.Proofs.Ytnppjkijhcampaa.Sym
open Go
set_option linter.unusedSimpArgs false
set_option linter.unusedVariables false
noncomputable section

theorem xor_zero {x : Int} (h0 : 0 ≤ x) (h : x < 18446744073709551616) : spXor .u64 x 0 = x := by
  show IntKind.wrap .u64 ((BitVec.ofInt 64 x ^^^ BitVec.ofInt 64 0).toNat : Int) = x
  rw [show BitVec.ofInt 64 0 = 0#64 from rfl, BitVec.xor_zero, BitVec.toNat_ofInt, wrap_u64] <;> omega
theorem xor_ones {x : Int} (h0 : 0 ≤ x) (h : x < 18446744073709551616) : spXor .u64 x 18446744073709551615 = 18446744073709551615 - x := by
  show IntKind.wrap .u64 ((BitVec.ofInt 64 x ^^^ BitVec.ofInt 64 18446744073709551615).toNat : Int) = _
  rw [show BitVec.ofInt 64 18446744073709551615 = BitVec.allOnes 64 from rfl, BitVec.xor_allOnes, BitVec.toNat_not, BitVec.toNat_ofInt, wrap_u64] <;> omega

/-! ### leat/vint.Zig -/
noncomputable abbrev iopZig : Io := ⟨[d64], [], [], [dV], none⟩
noncomputable def FpZig (d : iopZig.In) : Tr iopZig.Res := .ret (.ret ((spZig d.1.1, ()), ()))
noncomputable abbrev cspZig : List (Nat × Hc) := []
noncomputable def hdpZig : Hd := hdT cspZig
noncomputable def lppZig : Lp := lpT []

noncomputable def bodypZig (a0 : Int) : Option iopZig.Res := some (Out.ret ((spXor IntKind.u64 (spShl IntKind.u64 (IntKind.u64.wrap a0) 1) (IntKind.u64.wrap (spShr IntKind.i64 a0 63)), ()), ()))
theorem runpZig (a0 : Int) : Io.run tt hdpZig dr lppZig iopZig Go.Proofs.Try.f68 ((a0, ()), ()) = bodypZig a0 := by kernel_rfl
theorem okpZig : HcOk prog 68 (ioHd iopZig FpZig) := by
  refine fn_sound (n := 400) hm (cs := cspZig) HcsOk.nil (lp := lppZig) (fn := Go.Proofs.Try.f68) (by kernel_rfl) (by kernel_rfl) (by kernel_rfl) iopZig (.done (by kernel_rfl)) FpZig ?_
  rintro ⟨⟨(v : Int), ⟨⟩⟩, ⟨⟩⟩ out hw ho
  cases ho
  refine (runpZig v).trans ?_
  have hr := inR_i64.1 (show inR .i64 v from hw.1.1)
  unfold bodypZig
  show _ = some (Out.ret ((spZig v, ()), ()))
  have e1 : spShr .i64 v 63 = if 0 ≤ v then 0 else -1 := by
    show IntKind.wrap .i64 (v.fdiv (2 ^ 63)) = _
    rw [Int.fdiv_eq_ediv_of_nonneg _ (by decide)]
    split
    · rw [wrap_i64] <;> omega
    · rw [wrap_i64] <;> omega
  have e2 : spShl .u64 (IntKind.wrap .u64 v) 1 = (v * 2) % 18446744073709551616 := by
    show IntKind.wrap .u64 (IntKind.wrap .u64 v * 2 ^ 1) = _
    rw [wrap_u64_mod, wrap_u64_mod]
    omega
  rw [e1, e2]
  unfold spZig
  split
  · rw [show IntKind.wrap .u64 0 = 0 from rfl, xor_zero (by omega) (by omega), show v * 2 % 18446744073709551616 = 2 * v by omega]
  · rw [show IntKind.wrap .u64 (-1) = 18446744073709551615 from rfl, xor_ones (by omega) (by omega), show 18446744073709551615 - v * 2 % 18446744073709551616 = -2 * v - 1 by omega]

theorem xor_ones64 {x : Int} (h0 : 0 ≤ x) (h : x < 9223372036854775808) : spXor .i64 x (-1) = -x - 1 := by
  show IntKind.wrap .i64 ((BitVec.ofInt 64 x ^^^ BitVec.ofInt 64 (-1)).toNat : Int) = _
  rw [show BitVec.ofInt 64 (-1) = BitVec.allOnes 64 from rfl, BitVec.xor_allOnes, BitVec.toNat_not, BitVec.toNat_ofInt]
  simp only [IntKind.wrap, IntKind.signed, IntKind.bits]
  simp
  omega
theorem xor_zero64 {x : Int} (h0 : 0 ≤ x) (h : x < 9223372036854775808) : spXor .i64 x 0 = x := by
  show IntKind.wrap .i64 ((BitVec.ofInt 64 x ^^^ BitVec.ofInt 64 0).toNat : Int) = _
  rw [show BitVec.ofInt 64 0 = 0#64 from rfl, BitVec.xor_zero, BitVec.toNat_ofInt, wrap_i64] <;> omega
theorem and_one {x : Int} (h0 : 0 ≤ x) (h : x < 18446744073709551616) : spAnd .u64 x 1 = x % 2 := by
  show IntKind.wrap .u64 ((BitVec.ofInt 64 x &&& BitVec.ofInt 64 1).toNat : Int) = _
  rw [BitVec.toNat_and, show (BitVec.ofInt 64 1).toNat = 1 from rfl, BitVec.toNat_ofInt, Nat.and_one_is_mod, wrap_u64] <;> omega

/-! ### leat/vint.Zag -/
noncomputable abbrev iopZag : Io := ⟨[dV], [], [], [d64], none⟩
noncomputable def FpZag (d : iopZag.In) : Tr iopZag.Res := .ret (.ret ((spZag d.1.1, ()), ()))
noncomputable abbrev cspZag : List (Nat × Hc) := []
noncomputable def hdpZag : Hd := hdT cspZag
noncomputable def lppZag : Lp := lpT []

noncomputable def bodypZag (a0 : Int) : Option iopZag.Res := some (Out.ret ((spXor IntKind.i64 (IntKind.i64.wrap (spShr IntKind.u64 a0 1)) (IntKind.i64.wrap (0 - IntKind.i64.wrap (spAnd IntKind.u64 a0 1))), ()), ()))
theorem runpZag (a0 : Int) : Io.run tt hdpZag dr lppZag iopZag Go.Proofs.Try.f46 ((a0, ()), ()) = bodypZag a0 := by kernel_rfl
theorem okpZag : HcOk prog 46 (ioHd iopZag FpZag) := by
  refine fn_sound (n := 400) hm (cs := cspZag) HcsOk.nil (lp := lppZag) (fn := Go.Proofs.Try.f46) (by kernel_rfl) (by kernel_rfl) (by kernel_rfl) iopZag (.done (by kernel_rfl)) FpZag ?_
  rintro ⟨⟨(u : Int), ⟨⟩⟩, ⟨⟩⟩ out hw ho
  cases ho
  refine (runpZag u).trans ?_
  have hr := inR_u64.1 (show inR .u64 u from hw.1.1)
  unfold bodypZag
  show _ = some (Out.ret ((spZag u, ()), ()))
  have e1 : spShr .u64 u 1 = u / 2 := by
    show IntKind.wrap .u64 (u.fdiv (2 ^ 1)) = _
    rw [Int.fdiv_eq_ediv_of_nonneg _ (by decide), wrap_u64] <;> omega
  rw [e1, and_one hr.1 (by omega), wrap_i64 (n := u / 2) (by omega) (by omega), wrap_i64 (n := u % 2) (by omega) (by omega), wrap_i64 (n := 0 - u % 2) (by omega) (by omega)]
  unfold spZag
  split
  · rename_i h
    rw [h, show (0 : Int) - 0 = 0 from rfl, xor_zero64 (by omega) (by omega)]
  · rename_i h
    rw [show (0 : Int) - u % 2 = -1 by omega, xor_ones64 (by omega) (by omega)]

end
end Go.Proofs.Ytnppjkijhcampaa.Sym

/- vint: read, PutAll, Put. -/
namespace Go.Proofs.Ytnppjkijhcampaa.Sym
open Go
set_option linter.unusedSimpArgs false
set_option linter.unusedVariables false
noncomputable section

theorem and_127 {c : Int} (h0 : 0 ≤ c) (h : c ≤ 255) : spAnd .u8 c 127 = c % 128 := by
  show IntKind.wrap .u8 ((BitVec.ofInt 8 c &&& BitVec.ofInt 8 127).toNat : Int) = _
  rw [BitVec.toNat_and, show (BitVec.ofInt 8 127).toNat = 2 ^ 7 - 1 from rfl, BitVec.toNat_ofInt, Nat.and_two_pow_sub_one_eq_mod, wrap_u8] <;> omega
theorem or_add {u d : Int} {i : Nat} (hu : 0 ≤ u) (hu' : u < 2 ^ i) (hd : 0 ≤ d) (hd' : d * 2 ^ i < 18446744073709551616) (hi : i ≤ 63) : spOr .u64 u (spShl .u64 d i) = u + d * 2 ^ i := by
  have e1 : spShl .u64 d i = d * 2 ^ i := by
    show IntKind.wrap .u64 (d * 2 ^ (min (i : Int).toNat 64)) = _
    rw [show min (i : Int).toNat 64 = i by omega, wrap_u64 (Int.mul_nonneg hd (Int.le_of_lt (Int.pow_pos (by decide)))) hd']
  rw [e1]
  obtain ⟨u, rfl⟩ := toNat_of hu
  obtain ⟨d, rfl⟩ := toNat_of hd
  have h2 : (2 : Int) ^ i = ((2 ^ i : Nat) : Int) := by rw [Int.natCast_pow]; rfl
  have hp : (d : Int) * 2 ^ i = ((2 ^ i * d : Nat) : Int) := by rw [h2, Nat.mul_comm, Int.natCast_mul]
  rw [hp] at hd' ⊢
  rw [h2] at hu'
  have h3 : u < 2 ^ i := Int.ofNat_lt.1 hu'
  have h4 : 2 ^ i * d < 18446744073709551616 := by omega
  have h5 : 2 ^ i * d + u < 18446744073709551616 := by
    obtain ⟨q, hq⟩ : 2 ^ i ∣ 18446744073709551616 := (Nat.pow_dvd_pow 2 (show i ≤ 64 by omega))
    rw [hq] at h4 ⊢
    have h6 : d < q := Nat.lt_of_mul_lt_mul_left h4
    have h7 : 2 ^ i * (d + 1) ≤ 2 ^ i * q := Nat.mul_le_mul_left _ h6
    rw [Nat.mul_add] at h7
    omega
  have e4 := Nat.two_pow_add_eq_or_of_lt h3 d
  generalize 2 ^ i * d = k at h4 h5 e4 ⊢
  show IntKind.wrap .u64 ((BitVec.ofInt 64 (u : Int) ||| BitVec.ofInt 64 (k : Int)).toNat : Int) = _
  have e2 : (BitVec.ofInt 64 (u : Int)).toNat = u := by rw [BitVec.toNat_ofInt]; omega
  have e3 : (BitVec.ofInt 64 (k : Int)).toNat = k := by rw [BitVec.toNat_ofInt]; omega
  rw [BitVec.toNat_or, e2, e3, Nat.or_comm, ← e4, wrap_u64] <;> omega

end
end Go.Proofs.Ytnppjkijhcampaa.Sym

/- vint.read. -/
namespace Go.Proofs.Ytnppjkijhcampaa.Sym
open Go
set_option linter.unusedSimpArgs false
set_option linter.unusedVariables false
noncomputable section

theorem spVal_lt : ∀ l : List Int, 0 ≤ spVal l ∧ spVal l < 128 ^ l.length
  | [] => by simp [spVal]
  | c :: l => by
    have := spVal_lt l
    simp only [spVal, List.length_cons, Int.pow_succ]
    omega
/-- The last byte that most and top let in does not pass 64 bits. -/
noncomputable def spFit (m : Int) (t : Int) : Bool := (decide (m = 10) && decide (t = 1)) || (decide (m = 5) && decide (t = 15))

/-! ### leat/vint.read -/
noncomputable abbrev iopread : Io := ⟨[dL, dI, dI, dU], [], [], [dV, dI, dI], none⟩
noncomputable def Fpread (d : iopread.In) : Tr iopread.Res :=
  .ite (spFit d.1.2.2.1 d.1.2.2.2.1) (.ret (.ret (((spGet d.1.2.2.1.toNat d.1.2.2.2.1 d.1.1 d.1.2.1).1, (spGet d.1.2.2.1.toNat d.1.2.2.2.1 d.1.1 d.1.2.1).2.1, (spGet d.1.2.2.1.toNat d.1.2.2.2.1 d.1.1 d.1.2.1).2.2, ()), ()))) .no
noncomputable abbrev cspread : List (Nat × Hc) := []
noncomputable def hdpread : Hd := hdT cspread
noncomputable abbrev lopread_6 : Lo := ⟨⟨[.any, .one (.hol (.int IntKind.i64)), .one (.hol (.int IntKind.i64)), .one (.hol (.int IntKind.u8)), .any, .any, .any, .any, .any, .any, .any, .one (.hol (.int IntKind.u64)), .any, .any, .any, .any, .any, .any, .any, .any, .any, .any, .any, .any, .one (.hol (.sl 5 (Ty.int IntKind.u8))), .one (.hol (.int IntKind.i64)), .one (.hol (.int IntKind.i64)), .any, .any, .any, .any, .any, .any, .any, .any, .any, .any, .any, .any, .any, .any, .any, .any, .any, .any, .any, .any, .any, .any, .any, .any, .any, .any, .any, .any, .any, .any, .any, .any, .any, .any, .any], []⟩, [(.ret, ⟨[.any, .any, .any, .any, .any, .any, .any, .any, .one (.hol (.int IntKind.u64)), .one (.hol (.int IntKind.i64)), .one (.hol (.int IntKind.i64)), .any, .any, .any, .any, .any, .any, .any, .any, .any, .any, .any, .any, .any, .any, .any, .any, .any, .any, .any, .any, .any, .any, .any, .any, .any, .any, .any, .any, .any, .any, .any, .any, .any, .any, .any, .any, .any, .any, .any, .any, .any, .any, .any, .any, .any, .any, .any, .any, .any, .any, .any], []⟩), (.exit 0, ⟨[.any, .any, .any, .any, .any, .any, .any, .any, .any, .any, .any, .any, .any, .any, .any, .any, .any, .any, .any, .any, .any, .any, .any, .any, .any, .any, .any, .any, .any, .any, .any, .any, .any, .any, .any, .any, .any, .any, .any, .any, .any, .any, .any, .any, .any, .any, .any, .any, .any, .any, .any, .any, .any, .any, .any, .any, .any, .any, .any, .any, .any, .any], []⟩)]⟩
-- Fpread_6 : lopread_6.st.den → Tr (DenX lopread_6.xs) | ((h4, (h5, (h6, (h7, (h8, (h9, (h10, ()))))))), ())
noncomputable def Fpread_6 (d : lopread_6.st.den) : Tr (DenX lopread_6.xs) :=
  .ite (spFit d.1.2.1 d.1.2.2.1 && (decide (d.1.2.2.2.1 = (0 : Int)) && (decide (d.1.2.2.2.2.2.2.1 = (0 : Int)) && (decide ((d.1.2.2.2.2.1.length : Int) = d.1.2.2.2.2.2.1) && (decide ((0 : Int) ≤ d.1.1) && decide ((d.1.1 : Int) + (d.1.2.2.2.2.1.length : Int) ≤ 9223372036854775807))))))
    (.ite (decide ((spRd d.1.2.1.toNat d.1.2.2.1 d.1.2.2.2.2.1 0).2 = 0))
      (.ret (.ret ((), ((spVal (d.1.2.2.2.2.1.take ((spRd d.1.2.1.toNat d.1.2.2.1 d.1.2.2.2.2.1 0).1 + 1).toNat) % 18446744073709551616, (d.1.1 + (spRd d.1.2.1.toNat d.1.2.2.1 d.1.2.2.2.2.1 0).1 + 1, (0, ()))), ()))))
      (.ite (decide ((spRd d.1.2.1.toNat d.1.2.2.1 d.1.2.2.2.2.1 0).2 = 1)) (.ret (.pan (.ret ((), ((), ())))))
        (.ret (.ret ((), ((0, (0, ((spRd d.1.2.1.toNat d.1.2.2.1 d.1.2.2.2.2.1 0).2, ()))), ())))))) .no
noncomputable def lppread : Lp := lpT [(6, loHd lopread_6 Fpread_6)]
noncomputable def steppread_6 {R : Type} (h4 : Int) (h5 : Int) (h6 : Int) (h7 : Int) (h8 : List Int) (h9 : Int) (h10 : Int) (next : Int → Int → Int → Int → List Int → Int → Int → Option R) (out : DenX lopread_6.xs → Option R) : Option R := bif decide (h10 < h9) then bif decide (0 ≤ h10) && decide (h10 < (↑h8.length : Int)) then bif h10 == IntKind.i64.wrap (h5 - 1) then bif decide (h6 < h8.getD h10.toNat 0) then out (.ret ((), ((0, (0, (21, ()))), ()))) else bif decide (0 ≤ IntKind.i64.wrap (7 * h10)) then bif decide (128 ≤ h8.getD h10.toNat 0) then next (h4) (h5) (h6) (spOr IntKind.u64 h7 (spShl IntKind.u64 (IntKind.u64.wrap (spAnd IntKind.u8 (h8.getD h10.toNat 0) 127)) (IntKind.i64.wrap (7 * h10)))) (h8) (h9) (IntKind.i64.wrap (h10 + 1)) else bif h8.getD h10.toNat 0 == 0 then bif decide (0 < h10) then out (.ret ((), ((0, (0, (20, ()))), ()))) else out (.ret ((), ((spOr IntKind.u64 h7 (spShl IntKind.u64 (IntKind.u64.wrap (spAnd IntKind.u8 (h8.getD h10.toNat 0) 127)) (IntKind.i64.wrap (7 * h10))), (IntKind.i64.wrap (IntKind.i64.wrap (h4 + h10) + 1), (0, ()))), ()))) else out (.ret ((), ((spOr IntKind.u64 h7 (spShl IntKind.u64 (IntKind.u64.wrap (spAnd IntKind.u8 (h8.getD h10.toNat 0) 127)) (IntKind.i64.wrap (7 * h10))), (IntKind.i64.wrap (IntKind.i64.wrap (h4 + h10) + 1), (0, ()))), ()))) else none else bif decide (0 ≤ IntKind.i64.wrap (7 * h10)) then bif decide (128 ≤ h8.getD h10.toNat 0) then next (h4) (h5) (h6) (spOr IntKind.u64 h7 (spShl IntKind.u64 (IntKind.u64.wrap (spAnd IntKind.u8 (h8.getD h10.toNat 0) 127)) (IntKind.i64.wrap (7 * h10)))) (h8) (h9) (IntKind.i64.wrap (h10 + 1)) else bif h8.getD h10.toNat 0 == 0 then bif decide (0 < h10) then out (.ret ((), ((0, (0, (20, ()))), ()))) else out (.ret ((), ((spOr IntKind.u64 h7 (spShl IntKind.u64 (IntKind.u64.wrap (spAnd IntKind.u8 (h8.getD h10.toNat 0) 127)) (IntKind.i64.wrap (7 * h10))), (IntKind.i64.wrap (IntKind.i64.wrap (h4 + h10) + 1), (0, ()))), ()))) else out (.ret ((), ((spOr IntKind.u64 h7 (spShl IntKind.u64 (IntKind.u64.wrap (spAnd IntKind.u8 (h8.getD h10.toNat 0) 127)) (IntKind.i64.wrap (7 * h10))), (IntKind.i64.wrap (IntKind.i64.wrap (h4 + h10) + 1), (0, ()))), ()))) else none else none else out (.pan (.ret ((), ((), ()))))
noncomputable def itpread_6 (n : Nat) (h4 : Int) (h5 : Int) (h6 : Int) (h7 : Int) (h8 : List Int) (h9 : Int) (h10 : Int) : Option (DenX lopread_6.xs) := lpN tt hdpread dr lppread 0 Go.Proofs.Try.f45 (topL Go.Proofs.Try.f45 0) n (lopread_6.st.mk' ((h4, (h5, (h6, (h7, (h8, (h9, (h10, ()))))))), ())) (decX lopread_6.xs)
theorem slpread_6 (n : Nat) (h4 : Int) (h5 : Int) (h6 : Int) (h7 : Int) (h8 : List Int) (h9 : Int) (h10 : Int) : itpread_6 (n + 1) h4 h5 h6 h7 h8 h9 h10 = steppread_6 h4 h5 h6 h7 h8 h9 h10 (itpread_6 n) some := by kernel_rfl
theorem looppread (p m : Nat) (t : Int) (l : List Int) (hf : spFit m t = true) (hp : (p : Int) + l.length ≤ 9223372036854775807) (hc : ∀ c ∈ l, 0 ≤ c ∧ c ≤ 255) : ∀ (k i : Nat), i < m → m < i + k → i ≤ l.length →
    itpread_6 k p m t (spVal (l.take i)) l l.length i =
      if (spRd m t (l.drop i) i).2 = 0 then some (.ret ((), ((spVal (l.take ((spRd m t (l.drop i) i).1 + 1).toNat) % 18446744073709551616, (p + (spRd m t (l.drop i) i).1 + 1, (0, ()))), ())))
      else if (spRd m t (l.drop i) i).2 = 1 then some (.pan (.ret ((), ((), ())))) else some (.ret ((), ((0, (0, ((spRd m t (l.drop i) i).2, ()))), ()))) := by
  have hm : (m = 10 ∧ t = 1) ∨ (m = 5 ∧ t = 15) := by
    simp only [spFit, Bool.or_eq_true, Bool.and_eq_true, decide_eq_true_eq] at hf
    omega
  intro k
  induction k with
  | zero => intro i h1 h2; omega
  | succ k ih =>
    intro i h1 h2 h3
    rw [slpread_6]
    unfold steppread_6
    by_cases hl : i < l.length
    · have hcc := hc l[i] (List.getElem_mem hl)
      have e3 : IntKind.i64.wrap ((m : Int) - 1) = (m : Int) - 1 := wrap_i64 (by omega) (by omega)
      have e4 : IntKind.i64.wrap ((i : Int) + 1) = ((i + 1 : Nat) : Int) := by rw [wrap_i64] <;> omega
      have e5 : IntKind.i64.wrap (7 * (i : Int)) = ((7 * i : Nat) : Int) := by rw [wrap_i64] <;> omega
      have e6 : IntKind.i64.wrap ((p : Int) + i) = ((p + i : Nat) : Int) := by rw [wrap_i64] <;> omega
      have e7 : IntKind.i64.wrap (((p + i : Nat) : Int) + 1) = (p : Int) + i + 1 := by rw [wrap_i64] <;> omega
      rw [bif_true (by simpa using hl), bif_true (by simpa using hl)]
      simp only [Int.toNat_natCast, getD_lt hl, e3, e4, e5, e6, e7]
      rw [and_127 hcc.1 hcc.2, wrap_u64 (n := l[i] % 128) (by omega) (by omega), List.drop_eq_getElem_cons hl]
      have hsn : l.take (i + 1) = l.take i ++ [l[i]] := List.take_succ_eq_append_getElem hl
      have hv := spVal_lt (l.take i)
      have hti : (l.take i).length = i := by simp; omega
      rw [hti] at hv
      have e8 : (128 : Int) ^ i = 2 ^ (7 * i) := by rw [Int.pow_mul]; rfl
      have hor : l[i] % 128 * 2 ^ (7 * i) < 18446744073709551616 → spOr .u64 (spVal (l.take i)) (spShl .u64 (l[i] % 128) ((7 * i : Nat) : Int)) = spVal (l.take (i + 1)) := by
        intro h
        rw [or_add hv.1 (by rw [← e8]; exact hv.2) (by omega) h (by omega), hsn, spVal_snoc, hti, e8, Int.mul_comm]
      generalize hg : spOr .u64 (spVal (l.take i)) (spShl .u64 (l[i] % 128) ((7 * i : Nat) : Int)) = v at hor ⊢
      have e9 : (2 : Int) ^ (7 * i) = ((2 ^ (7 * i) : Nat) : Int) := by rw [Int.natCast_pow]; rfl
      have hbd : (i ≤ 8 ∨ l[i] % 128 ≤ 1) → l[i] % 128 * 2 ^ (7 * i) < 18446744073709551616 := by
        intro h
        rw [e9]
        rcases h with h | h
        · have h8 : 2 ^ (7 * i) ≤ 2 ^ 56 := Nat.pow_le_pow_right (by decide) (by omega)
          have h9 : l[i] % 128 * ((2 ^ (7 * i) : Nat) : Int) ≤ 127 * ((2 ^ (7 * i) : Nat) : Int) := Int.mul_le_mul_of_nonneg_right (by omega) (by omega)
          generalize 2 ^ (7 * i) = w at h8 h9
          omega
        · have h8 : 2 ^ (7 * i) ≤ 2 ^ 63 := Nat.pow_le_pow_right (by decide) (by omega)
          have h9 : l[i] % 128 * ((2 ^ (7 * i) : Nat) : Int) ≤ 1 * ((2 ^ (7 * i) : Nat) : Int) := Int.mul_le_mul_of_nonneg_right h (by omega)
          generalize 2 ^ (7 * i) = w at h8 h9
          omega
      have hnext := fun h => ih (i + 1) h (by omega) (by omega)
      have ei : ((i : Int) + 1).toNat = i + 1 := by omega
      have hvr : inR .u64 v := by rw [← hg]; exact inR_wrap _ _
      have hvr := inR_u64.1 hvr
      clear hg
      by_cases hm1 : i + 1 = m
      · have h3' : ((i : Int) == (m : Int) - 1) = true := by simp; omega
        rw [bif_true h3']
        by_cases h4 : t < l[i]
        · simp [spRd, hm1, h4]
        · have hv2 := hor (hbd (by omega))
          have hmod : spVal (l.take (i + 1)) % 18446744073709551616 = spVal (l.take (i + 1)) := by rw [← hv2]; omega
          have hmod' := hmod
          rw [hm1] at hmod'
          have h5 : l[i] < 128 := by omega
          have h6 : ¬ 128 ≤ l[i] := by omega
          rw [bif_false (by simpa using h4), bif_true (by simp; omega), bif_false (by simpa using h6), hv2]
          by_cases h7 : l[i] = 0
          · have h4' : ¬ t < 0 := by omega
            by_cases h8 : 0 < i <;> simp [spRd, hm1, h4', h7, h8, cond_eq_ite, ei, hmod']
          · simp [spRd, hm1, h4, h5, h7, cond_eq_ite, ei, hmod']
      · have h3' : ((i : Int) == (m : Int) - 1) = false := by simp; omega
        have hv2 := hor (hbd (by omega))
        have hmod : spVal (l.take (i + 1)) % 18446744073709551616 = spVal (l.take (i + 1)) := by rw [← hv2]; omega
        rw [bif_false h3', bif_true (by simp; omega), hv2]
        by_cases h5 : l[i] < 128
        · have h6 : ¬ 128 ≤ l[i] := by omega
          rw [bif_false (by simpa using h6)]
          by_cases h7 : l[i] = 0
          · by_cases h8 : 0 < i <;> simp [spRd, hm1, h7, h8, cond_eq_ite, ei, hmod]
          · simp [spRd, hm1, h5, h7, cond_eq_ite, ei, hmod]
        · rw [bif_true (by simp; omega), hnext (by omega)]
          simp [spRd, hm1, h5]
    · rw [bif_false (by simpa using hl), List.drop_of_length_le (by omega)]
      simp [spRd]
noncomputable def bodypread (a0 : List Int) (a1 : Int) (a2 : Int) (a3 : Int) : Option iopread.Res := bif decide (a1 < 0) then some (Out.ret ((0, 0, 3, ()), ())) else bif decide ((↑a0.length : Int) < a1) then some (Out.ret ((0, 0, 3, ()), ())) else bif decide (0 ≤ a1) && (decide (a1 ≤ (↑a0.length : Int)) && decide ((↑a0.length : Int) ≤ (↑a0.length : Int))) then (Fpread_6 ((a1, (a2, (a3, (0, (List.drop a1.toNat (List.take (↑a0.length : Int).toNat a0), ((↑(List.drop a1.toNat (List.take (↑a0.length : Int).toNat a0)).length : Int), (0, ()))))))), ())).run fun y => match y with | .ret ((), ((x46, x47, x48, ()), ())) => (some (Out.ret ((x46, x47, x48, ()), ()))) | .pan (.ret ((), ((), ()))) => (some (Out.ret ((0, 0, 1, ()), ()))) else none
theorem runpread (a0 : List Int) (a1 : Int) (a2 : Int) (a3 : Int) : Io.run tt hdpread dr lppread iopread Go.Proofs.Try.f45 ((a0, a1, a2, a3, ()), ()) = bodypread a0 a1 a2 a3 := by kernel_rfl
theorem okpread : HcOk prog 45 (ioHd iopread Fpread) := by
  refine fn_sound (n := 400) hm (cs := cspread) .nil (lp := lppread) (fn := Go.Proofs.Try.f45) (by kernel_rfl) (by kernel_rfl) (by kernel_rfl) iopread
    (.step (h0 := loHd lopread_6 Fpread_6) (by kernel_rfl) (loop_sound (n := 400) hm (cs := cspread) .nil (lp := lppread) (fn := Go.Proofs.Try.f45) (.done (by kernel_rfl)) lopread_6 Fpread_6 ?_) (.done (by kernel_rfl))) Fpread ?_
  · rintro ⟨⟨(p : Int), (m : Int), (t : Int), (u : Int), (l : List Int), (n : Int), (i : Int), ⟨⟩⟩, ⟨⟩⟩ y hw hy
    obtain ⟨hg, hy⟩ := Tr.guard hy
    simp only [Bool.and_eq_true, decide_eq_true_eq] at hg
    obtain ⟨hf, rfl, rfl, rfl, h1, h2⟩ := hg
    have h1 : (0 : Int) ≤ p := h1
    have h2 : p + (l.length : Int) ≤ 9223372036854775807 := h2
    have hm0 : 5 ≤ m ∧ m ≤ 10 := by
      simp only [spFit, Bool.or_eq_true, Bool.and_eq_true, decide_eq_true_eq] at hf
      omega
    obtain ⟨p, rfl⟩ := toNat_of h1
    obtain ⟨m, rfl⟩ := toNat_of (show 0 ≤ m by omega)
    have hc : ∀ c ∈ l, 0 ≤ c ∧ c ≤ 255 := fun c hc => inR_u8.1 (hw.1.2.2.2.2.1.2 c hc)
    refine ⟨m + 1, (looppread p m t l hf h2 hc (m + 1) 0 (by omega) (by omega) (by omega)).trans ?_⟩
    rw [← hy]
    simp only [Tr.val_ite, Tr.val_ret, Int.toNat_natCast, decide_eq_true_eq, List.drop_zero]
  · rintro ⟨⟨(b : List Int), (p : Int), (m : Int), (t : Int), ⟨⟩⟩, ⟨⟩⟩ out hw ho
    obtain ⟨hf, ho⟩ := Tr.guard ho
    cases ho
    refine (runpread b p m t).trans ?_
    have hb : b.length ≤ maxLen := hw.1.1.1
    rw [maxLen_eq] at hb
    have hf : spFit m t = true := hf
    have hm0 : 5 ≤ m ∧ m ≤ 10 := by
      simp only [spFit, Bool.or_eq_true, Bool.and_eq_true, decide_eq_true_eq] at hf
      omega
    unfold bodypread
    show _ = some (Out.ret (((spGet m.toNat t b p).1, (spGet m.toNat t b p).2.1, (spGet m.toNat t b p).2.2, ()), ()))
    unfold spGet
    by_cases h1 : p < 0
    · rw [bif_true (by simpa using h1), if_pos (.inl h1)]
    · by_cases h2 : (b.length : Int) < p
      · rw [bif_false (by simpa using h1), bif_true (by simpa using h2), if_pos (.inr h2)]
      · rw [bif_false (by simpa using h1), bif_false (by simpa using h2), bif_true (by simp; omega), if_neg (by omega), show (b.length : Int).toNat = b.length by omega, List.take_length]
        have hlen : ((b.drop p.toNat).length : Int) = b.length - p := by simp; omega
        have hr := spRd_le m.toNat t (b.drop p.toNat) 0
        unfold Fpread_6
        generalize b.drop p.toNat = l at hlen hr ⊢
        generalize spRd m.toNat t l 0 = r at hr ⊢
        obtain ⟨r1, r2⟩ := r
        have h9 : (0 : Int) ≤ p := by omega
        have h8 : p + (l.length : Int) ≤ 9223372036854775807 := by omega
        simp only [Tr.run_ite, Tr.run_ret, Bool.and_eq_true, decide_eq_true_eq]
        rw [if_pos ⟨hf, trivial, trivial, trivial, h9, h8⟩]
        by_cases h3 : r2 = 0
        · simp [h3]
        · by_cases h4 : r2 = 1
          · simp [h4]
          · simp [h3, h4]

end
end Go.Proofs.Ytnppjkijhcampaa.Sym

/- vint.Get, vint.Get32. -/
namespace Go.Proofs.Ytnppjkijhcampaa.Sym
open Go
set_option linter.unusedSimpArgs false
set_option linter.unusedVariables false
noncomputable section

/-! ### leat/vint.Get -/
noncomputable abbrev iopGet : Io := ⟨[dL, dI], [], [], [d64, dI, dI], none⟩
noncomputable def FpGet (d : iopGet.In) : Tr iopGet.Res := .ret (.ret ((spZag (spGet 10 1 d.1.1 d.1.2.1).1, (spGet 10 1 d.1.1 d.1.2.1).2.1, (spGet 10 1 d.1.1 d.1.2.1).2.2, ()), ()))
noncomputable abbrev cspGet : List (Nat × Hc) := [(45, ioHd iopread Fpread), (46, ioHd iopZag FpZag)]
noncomputable def hdpGet : Hd := hdT cspGet
noncomputable def lppGet : Lp := lpT []

noncomputable def bodypGet (a0 : List Int) (a1 : Int) : Option iopGet.Res := some (Out.ret ((spZag (spGet (Int.toNat 10) 1 a0 a1).fst, (spGet (Int.toNat 10) 1 a0 a1).snd.fst, (spGet (Int.toNat 10) 1 a0 a1).snd.snd, ()), ()))
theorem runpGet (a0 : List Int) (a1 : Int) : Io.run tt hdpGet dr lppGet iopGet Go.Proofs.Try.f48 ((a0, a1, ()), ()) = bodypGet a0 a1 := by kernel_rfl
theorem okpGet : HcOk prog 48 (ioHd iopGet FpGet) := by
  refine fn_sound (n := 400) hm (cs := cspGet) (.cons okpread (.cons okpZag .nil)) (lp := lppGet) (fn := Go.Proofs.Try.f48) (by kernel_rfl) (by kernel_rfl) (by kernel_rfl) iopGet (.done (by kernel_rfl)) FpGet ?_
  rintro ⟨⟨(b : List Int), (p : Int), ⟨⟩⟩, ⟨⟩⟩ out hw ho
  cases ho
  refine (runpGet b p).trans ?_
  first | rfl | (unfold bodypGet; simp [spFit]; done) | (unfold bodypGet; rfl)

/-! ### leat/vint.Get32 -/
noncomputable abbrev iopGet32 : Io := ⟨[dL, dI], [], [], [d32, dI, dI], none⟩
noncomputable def FpGet32 (d : iopGet32.In) : Tr iopGet32.Res := .ret (.ret ((IntKind.wrap .i32 (spZag (spGet 5 15 d.1.1 d.1.2.1).1), (spGet 5 15 d.1.1 d.1.2.1).2.1, (spGet 5 15 d.1.1 d.1.2.1).2.2, ()), ()))
noncomputable abbrev cspGet32 : List (Nat × Hc) := cspGet
noncomputable def hdpGet32 : Hd := hdT cspGet32
noncomputable def lppGet32 : Lp := lpT []

noncomputable def bodypGet32 (a0 : List Int) (a1 : Int) : Option iopGet32.Res := some (Out.ret ((IntKind.i32.wrap (spZag (spGet (Int.toNat 5) 15 a0 a1).fst), (spGet (Int.toNat 5) 15 a0 a1).snd.fst, (spGet (Int.toNat 5) 15 a0 a1).snd.snd, ()), ()))
theorem runpGet32 (a0 : List Int) (a1 : Int) : Io.run tt hdpGet32 dr lppGet32 iopGet32 Go.Proofs.Try.f30 ((a0, a1, ()), ()) = bodypGet32 a0 a1 := by kernel_rfl
theorem okpGet32 : HcOk prog 30 (ioHd iopGet32 FpGet32) := by
  refine fn_sound (n := 400) hm (cs := cspGet32) (.cons okpread (.cons okpZag .nil)) (lp := lppGet32) (fn := Go.Proofs.Try.f30) (by kernel_rfl) (by kernel_rfl) (by kernel_rfl) iopGet32 (.done (by kernel_rfl)) FpGet32 ?_
  rintro ⟨⟨(b : List Int), (p : Int), ⟨⟩⟩, ⟨⟩⟩ out hw ho
  cases ho
  refine (runpGet32 b p).trans ?_
  first | rfl | (unfold bodypGet32; simp [spFit]; done) | (unfold bodypGet32; rfl)

end
end Go.Proofs.Ytnppjkijhcampaa.Sym

/- vint.PutAll, vint.Put. -/
namespace Go.Proofs.Ytnppjkijhcampaa.Sym
open Go
set_option linter.unusedSimpArgs false
set_option linter.unusedVariables false
noncomputable section

theorem or_128n : ∀ c : Nat, c < 256 → spOr .u8 (c : Int) 128 = (c : Int) % 128 + 128 := by decide +kernel
theorem or_128 {u : Int} : spOr .u8 (IntKind.wrap .u8 u) 128 = u % 128 + 128 := by
  have e : IntKind.wrap .u8 u = ((u % 256).toNat : Int) := by simp [IntKind.wrap, IntKind.signed, IntKind.bits]; omega
  rw [e, or_128n _ (by omega)]
  omega

/-! ### leat/vint.PutAll -/
noncomputable abbrev dLs : Sh := .dat (.sl 2 (.int .i64)) false false
noncomputable abbrev iopPutAll : Io := ⟨[dLs], [], [], [dO], none⟩
noncomputable def spDigs (vs : List Int) : List Int := vs.flatMap fun v => spDig (spZig v)
noncomputable def FpPutAll (d : iopPutAll.In) : Tr iopPutAll.Res := .ite (decide (d.1.1.length ≤ 100000000)) (.ret (.ret ((spDigs d.1.1, ()), ()))) .no
noncomputable abbrev cspPutAll : List (Nat × Hc) := [(68, ioHd iopZig FpZig)]
noncomputable def hdpPutAll : Hd := hdT cspPutAll
noncomputable abbrev lopPutAll_7 : Lo := ⟨⟨[.any, .any, .any, .one (.onl 5 (Ty.int IntKind.u8) 7), .any, .any, .one (.hol (.int IntKind.u64)), .any, .one (.hol (.sl 2 (Ty.int IntKind.i64))), .one (.hol (.int IntKind.i64)), .one (.hol (.int IntKind.i64)), .any, .any, .any, .any, .any, .any, .any, .any, .any, .any, .any, .any, .any, .any, .any, .any, .any, .any, .any, .any, .any, .any], []⟩, [(.exit 2, ⟨[.any, .any, .any, .one (.onl 5 (Ty.int IntKind.u8) 7), .any, .any, .one (.hol (.int IntKind.u64)), .any, .one (.hol (.sl 2 (Ty.int IntKind.i64))), .one (.hol (.int IntKind.i64)), .one (.hol (.int IntKind.i64)), .any, .any, .any, .any, .any, .any, .any, .any, .any, .any, .any, .any, .any, .any, .any, .any, .any, .any, .any, .any, .any, .any], []⟩)]⟩
-- FpPutAll_7 : lopPutAll_7.st.den → Tr (DenX lopPutAll_7.xs) | ((h5, (h6, (h7, (h8, (h9, ()))))), ())
noncomputable abbrev lopPutAll_4 : Lo := ⟨⟨[.any, .any, .any, .one (.onl 5 (Ty.int IntKind.u8) 7), .any, .any, .any, .any, .one (.hol (.sl 2 (Ty.int IntKind.i64))), .one (.hol (.int IntKind.i64)), .one (.hol (.int IntKind.i64)), .any, .any, .any, .any, .any, .any, .any, .any, .any, .any, .any, .any, .any, .any, .any, .any, .any, .any, .any, .any, .any, .any], []⟩, [(.exit 0, ⟨[.any, .any, .any, .one (.onl 5 (Ty.int IntKind.u8) 7), .any, .any, .any, .any, .any, .any, .any, .any, .any, .any, .any, .any, .any, .any, .any, .any, .any, .any, .any, .any, .any, .any, .any, .any, .any, .any, .any, .any, .any], []⟩)]⟩
-- FpPutAll_4 : lopPutAll_4.st.den → Tr (DenX lopPutAll_4.xs) | ((h1, (h2, (h3, (h4, ())))), ())
noncomputable def FpPutAll_7 (d : lopPutAll_7.st.den) : Tr (DenX lopPutAll_7.xs) :=
  .ite (decide (d.1.1.length ≤ 4294967000)) (.ret (.ret ((), ((d.1.1 ++ spHi 10 d.1.2.1, (spLo 10 d.1.2.1, (d.1.2.2.1, (d.1.2.2.2.1, (d.1.2.2.2.2.1, ()))))), ())))) .no
noncomputable def FpPutAll_4 (d : lopPutAll_4.st.den) : Tr (DenX lopPutAll_4.xs) :=
  .ite (decide (d.1.1.length = 0) && (decide ((d.1.2.1.length : Int) = d.1.2.2.1) && (decide (d.1.2.2.2.1 = (0 : Int)) && decide (d.1.2.1.length ≤ 100000000)))) (.ret (.ret ((), ((spDigs d.1.2.1, ()), ())))) .no
noncomputable def lppPutAll : Lp := lpT [(4, loHd lopPutAll_4 FpPutAll_4), (7, loHd lopPutAll_7 FpPutAll_7)]
noncomputable def steppPutAll_7 {R : Type} (h5 : List Int) (h6 : Int) (h7 : List Int) (h8 : Int) (h9 : Int) (next : List Int → Int → List Int → Int → Int → Option R) (out : DenX lopPutAll_7.xs → Option R) : Option R := bif decide (128 ≤ h6) then bif decide (h5.length + [spOr IntKind.u8 (IntKind.u8.wrap h6) 128].length ≤ 4294967296) then next (h5 ++ [spOr IntKind.u8 (IntKind.u8.wrap h6) 128]) (spShr IntKind.u64 h6 7) (h7) (h8) (h9) else none else out (.ret ((), ((h5, (h6, (h7, (h8, (h9, ()))))), ())))
noncomputable def itpPutAll_7 (n : Nat) (h5 : List Int) (h6 : Int) (h7 : List Int) (h8 : Int) (h9 : Int) : Option (DenX lopPutAll_7.xs) := lpN tt hdpPutAll dr lppPutAll 0 Go.Proofs.Try.f60 (subL Go.Proofs.Try.f60 (topL Go.Proofs.Try.f60 0) 0) n (lopPutAll_7.st.mk' ((h5, (h6, (h7, (h8, (h9, ()))))), ())) (decX lopPutAll_7.xs)
theorem slpPutAll_7 (n : Nat) (h5 : List Int) (h6 : Int) (h7 : List Int) (h8 : Int) (h9 : Int) : itpPutAll_7 (n + 1) h5 h6 h7 h8 h9 = steppPutAll_7 h5 h6 h7 h8 h9 (itpPutAll_7 n) some := by kernel_rfl
noncomputable def steppPutAll_4 {R : Type} (h1 : List Int) (h2 : List Int) (h3 : Int) (h4 : Int) (next : List Int → List Int → Int → Int → Option R) (out : DenX lopPutAll_4.xs → Option R) : Option R := bif decide (h4 < h3) then bif decide (0 ≤ h4) && decide (h4 < (↑h2.length : Int)) then (FpPutAll_7 ((h1, (spZig (h2.getD h4.toNat 0), (h2, (h3, (h4, ()))))), ())).run fun y => match y with | .ret ((), ((x20, x21, x22, x23, x24, ()), ())) => (bif decide (x20.length + [IntKind.u8.wrap x21].length ≤ 4294967296) then next (x20 ++ [IntKind.u8.wrap x21]) (x22) (x23) (IntKind.i64.wrap (x24 + 1)) else none) else none else out (.ret ((), ((h1, ()), ())))
noncomputable def itpPutAll_4 (n : Nat) (h1 : List Int) (h2 : List Int) (h3 : Int) (h4 : Int) : Option (DenX lopPutAll_4.xs) := lpN tt hdpPutAll dr lppPutAll 0 Go.Proofs.Try.f60 (topL Go.Proofs.Try.f60 0) n (lopPutAll_4.st.mk' ((h1, (h2, (h3, (h4, ())))), ())) (decX lopPutAll_4.xs)
theorem slpPutAll_4 (n : Nat) (h1 : List Int) (h2 : List Int) (h3 : Int) (h4 : Int) : itpPutAll_4 (n + 1) h1 h2 h3 h4 = steppPutAll_4 h1 h2 h3 h4 (itpPutAll_4 n) some := by kernel_rfl
theorem looppPutAll_7 (l : List Int) (a i : Int) : ∀ (n k : Nat) (u : Int) (o : List Int), 0 ≤ u → u < 128 ^ n → u < 18446744073709551616 → n < k → o.length + n ≤ 4294967296 →
    itpPutAll_7 k o u l a i = some (.ret ((), ((o ++ spHi n u, (spLo n u, (l, (a, (i, ()))))), ()))) := by
  intro n
  induction n with
  | zero =>
    intro k u o h0 h1 h2 h3 h4
    obtain ⟨k, rfl⟩ : ∃ m, k = m + 1 := ⟨k - 1, by omega⟩
    rw [slpPutAll_7]
    unfold steppPutAll_7
    have : ¬ 128 ≤ u := by simp at h1; omega
    simp [this, spLo, spHi]
  | succ n ih =>
    intro k u o h0 h1 h2 h3 h4
    obtain ⟨k, rfl⟩ : ∃ m, k = m + 1 := ⟨k - 1, by omega⟩
    rw [slpPutAll_7]
    unfold steppPutAll_7
    have e1 : spShr .u64 u 7 = u / 128 := by
      show IntKind.wrap .u64 (u.fdiv (2 ^ 7)) = _
      rw [Int.fdiv_eq_ediv_of_nonneg _ (by decide), wrap_u64] <;> omega
    rw [or_128, e1]
    by_cases h : 127 < u
    · rw [ih k (u / 128) _ (by omega) (by rw [Int.pow_succ] at h1; exact Int.ediv_lt_of_lt_mul (by omega) h1) (by omega) (by omega) (by simp; omega)]
      have h5 : o.length + 1 ≤ 4294967296 := by omega
      have h6 : 128 ≤ u := by omega
      simp [h, h5, h6, spLo, spHi]
    · have h6 : ¬ 128 ≤ u := by omega
      simp [h, h6, spLo, spHi]
theorem spHi_len : ∀ (n : Nat) (u : Int), (spHi n u).length ≤ n := by
  intro n
  induction n with
  | zero => intro u; simp [spHi]
  | succ n ih => intro u; simp only [spHi]; split; have := ih (u / 128); simp; omega; simp
theorem spZig_range {v : Int} (hr : inR .i64 v) : 0 ≤ spZig v ∧ spZig v < 18446744073709551616 := by
  have hr := inR_i64.1 hr
  unfold spZig; split <;> omega
theorem spDigs_cons (v : Int) (l : List Int) : spDigs (v :: l) = spHi 10 (spZig v) ++ (spLo 10 (spZig v) :: spDigs l) := by simp [spDigs, spDig]
theorem looppPutAll_4 (vs : List Int) (hl : vs.length ≤ 100000000) (hr : ∀ v ∈ vs, inR .i64 v) : ∀ (k : Nat) (o : List Int) (i : Nat), i ≤ vs.length → vs.length < i + k → o.length ≤ 11 * i →
    itpPutAll_4 k o vs vs.length i = some (.ret ((), ((o ++ spDigs (vs.drop i), ()), ()))) := by
  intro k
  induction k with
  | zero => intro o i h1 h2; omega
  | succ k ih =>
    intro o i h1 h2 h3
    rw [slpPutAll_4]
    unfold steppPutAll_4
    by_cases hi : i < vs.length
    · have hz := spZig_range (hr vs[i] (List.getElem_mem hi))
      obtain ⟨l1, l2⟩ := spLo_le 10 (spZig vs[i]) hz.1 (by have := hz.2; omega)
      have h4 := spHi_len 10 (spZig vs[i])
      have h5 : o.length ≤ 4294967000 := by omega
      have h6 : o.length + (spHi 10 (spZig vs[i])).length + 1 ≤ 4294967296 := by omega
      have e4 : IntKind.i64.wrap ((i : Int) + 1) = ((i + 1 : Nat) : Int) := by rw [wrap_i64] <;> omega
      rw [bif_true (by simpa using hi), bif_true (by simpa using hi), List.drop_eq_getElem_cons hi]
      simp only [Int.toNat_natCast, getD_lt hi, FpPutAll_7, Tr.run_ite, Tr.run_ret, h5, decide_true, if_true, e4]
      rw [bif_true (by simp; omega), wrap_u8 (n := spLo 10 (spZig vs[i])) l1 (by omega), ih _ (i + 1) hi (by omega) (by simp; omega)]
      rw [spDigs_cons]
      simp
    · rw [List.drop_of_length_le (by omega)]
      simp [hi, spDigs]
noncomputable def bodypPutAll (a0 : List Int) : Option iopPutAll.Res := (FpPutAll_4 (([], (a0, ((↑a0.length : Int), (0, ())))), ())).run fun y => match y with | .ret ((), ((x30, ()), ())) => (some (Out.ret ((x30, ()), ())))
theorem runpPutAll (a0 : List Int) : Io.run tt hdpPutAll dr lppPutAll iopPutAll Go.Proofs.Try.f60 ((a0, ()), ()) = bodypPutAll a0 := by kernel_rfl
theorem okpPutAll : HcOk prog 60 (ioHd iopPutAll FpPutAll) := by
  refine fn_sound (n := 400) hm (cs := cspPutAll) (.cons okpZig .nil) (lp := lppPutAll) (fn := Go.Proofs.Try.f60) (by kernel_rfl) (by kernel_rfl) (by kernel_rfl) iopPutAll
    (.step (h0 := loHd lopPutAll_4 FpPutAll_4) (by kernel_rfl) (loop_sound (n := 400) hm (cs := cspPutAll) (.cons okpZig .nil) (lp := lppPutAll) (fn := Go.Proofs.Try.f60)
      (.step (h0 := loHd lopPutAll_7 FpPutAll_7) (by kernel_rfl) (loop_sound (n := 400) hm (cs := cspPutAll) (.cons okpZig .nil) (lp := lppPutAll) (fn := Go.Proofs.Try.f60) (.done (by kernel_rfl)) lopPutAll_7 FpPutAll_7 ?_) (.done (by kernel_rfl)))
      lopPutAll_4 FpPutAll_4 ?_) (.done (by kernel_rfl))) FpPutAll ?_
  · rintro ⟨⟨(o : List Int), (u : Int), (l : List Int), (a : Int), (i : Int), ⟨⟩⟩, ⟨⟩⟩ y hw hy
    obtain ⟨hg, hy⟩ := Tr.guard hy
    have hg : o.length ≤ 4294967000 := by simpa using hg
    have hr := inR_u64.1 (show inR .u64 u from hw.1.2.1)
    refine ⟨11, (looppPutAll_7 l a i 10 11 u o hr.1 (by omega) (by omega) (by omega) (by omega)).trans ?_⟩
    rw [← hy]; rfl
  · rintro ⟨⟨(o : List Int), (l : List Int), (a : Int), (i : Int), ⟨⟩⟩, ⟨⟩⟩ y hw hy
    obtain ⟨hg, hy⟩ := Tr.guard hy
    simp only [Bool.and_eq_true, decide_eq_true_eq] at hg
    obtain ⟨h1, rfl, rfl, h2⟩ := hg
    have h1 : o = [] := List.length_eq_zero_iff.1 h1
    subst h1
    have h2 : l.length ≤ 100000000 := h2
    refine ⟨l.length + 1, (looppPutAll_4 l h2 (fun v hv => hw.1.2.1.2 v hv) (l.length + 1) [] 0 (by omega) (by omega) (by simp)).trans ?_⟩
    rw [← hy]; rfl
  · rintro ⟨⟨(l : List Int), ⟨⟩⟩, ⟨⟩⟩ out hw ho
    obtain ⟨hg, ho⟩ := Tr.guard ho
    cases ho
    refine (runpPutAll l).trans ?_
    have hg : l.length ≤ 100000000 := by simpa using hg
    unfold bodypPutAll FpPutAll_4
    simp [Tr.run_ite, Tr.run_ret, hg]

/-! ### leat/vint.Put -/
noncomputable abbrev iopPut : Io := ⟨[d64], [], [], [dO], none⟩
noncomputable def FpPut (d : iopPut.In) : Tr iopPut.Res := .ret (.ret ((spDig (spZig d.1.1), ()), ()))
noncomputable abbrev cspPut : List (Nat × Hc) := [(60, ioHd iopPutAll FpPutAll)]
noncomputable def hdpPut : Hd := hdT cspPut
noncomputable def lppPut : Lp := lpT []

noncomputable def bodypPut (a0 : Int) : Option iopPut.Res := some (Out.ret ((spDigs [a0], ()), ()))
theorem runpPut (a0 : Int) : Io.run tt hdpPut dr lppPut iopPut Go.Proofs.Try.f37 ((a0, ()), ()) = bodypPut a0 := by kernel_rfl
theorem okpPut : HcOk prog 37 (ioHd iopPut FpPut) := by
  refine fn_sound (n := 400) hm (cs := cspPut) (.cons okpPutAll .nil) (lp := lppPut) (fn := Go.Proofs.Try.f37) (by kernel_rfl) (by kernel_rfl) (by kernel_rfl) iopPut (.done (by kernel_rfl)) FpPut ?_
  rintro ⟨⟨(v : Int), ⟨⟩⟩, ⟨⟩⟩ out hw ho
  cases ho
  refine (runpPut v).trans ?_
  unfold bodypPut
  simp [spDigs]

end
end Go.Proofs.Ytnppjkijhcampaa.Sym

/- leatref04: well-formed text. -/
namespace Go.Proofs.Ytnppjkijhcampaa.Sym
open Go
set_option linter.unusedSimpArgs false
set_option linter.unusedVariables false
noncomputable section

noncomputable def spIn (b : List Int) (p : Int) (lo hi : Int) : Bool := decide (p < (b.length : Int)) && (decide (lo ≤ b.getD p.toNat 0) && decide (b.getD p.toNat 0 ≤ hi))

/-! ### leat/leatref04.within -/
noncomputable abbrev iorwithin : Io := ⟨[dL, dI, dU, dU], [], [], [dB], none⟩
noncomputable def Frwithin (d : iorwithin.In) : Tr iorwithin.Res := .ite (decide ((0 : Int) ≤ d.1.2.1)) (.ret (.ret ((spIn d.1.1 d.1.2.1 d.1.2.2.1 d.1.2.2.2.1, ()), ()))) .no
noncomputable abbrev csrwithin : List (Nat × Hc) := []
noncomputable def hdrwithin : Hd := hdT csrwithin
noncomputable def lprwithin : Lp := lpT []

noncomputable def bodyrwithin (a0 : List Int) (a1 : Int) (a2 : Int) (a3 : Int) : Option iorwithin.Res := bif decide (a1 < (↑a0.length : Int)) then bif decide (0 ≤ a1) && decide (a1 < (↑a0.length : Int)) then bif decide (a2 ≤ a0.getD a1.toNat 0) then bif decide (0 ≤ a1) && decide (a1 < (↑a0.length : Int)) then some (Out.ret ((decide (a0.getD a1.toNat 0 ≤ a3), ()), ())) else none else some (Out.ret ((false, ()), ())) else none else some (Out.ret ((false, ()), ()))
theorem runrwithin (a0 : List Int) (a1 : Int) (a2 : Int) (a3 : Int) : Io.run tt hdrwithin dr lprwithin iorwithin Go.Proofs.Try.f69 ((a0, a1, a2, a3, ()), ()) = bodyrwithin a0 a1 a2 a3 := by kernel_rfl
theorem okrwithin : HcOk prog 69 (ioHd iorwithin Frwithin) := by
  refine fn_sound (n := 400) hm (cs := csrwithin) HcsOk.nil (lp := lprwithin) (fn := Go.Proofs.Try.f69) (by kernel_rfl) (by kernel_rfl) (by kernel_rfl) iorwithin (.done (by kernel_rfl)) Frwithin ?_
  rintro ⟨⟨(b : List Int), (p : Int), (lo : Int), (hi : Int), ⟨⟩⟩, ⟨⟩⟩ out hw ho
  obtain ⟨hg, ho⟩ := Tr.guard ho
  cases ho
  refine (runrwithin b p lo hi).trans ?_
  have hg : (0 : Int) ≤ p := by simpa using hg
  unfold bodyrwithin
  show _ = some (Out.ret ((spIn b p lo hi, ()), ()))
  unfold spIn
  generalize b.getD p.toNat 0 = c
  by_cases h1 : p < (b.length : Int)
  · by_cases h2 : lo ≤ c
    · simp [hg, h1, h2]
    · simp [hg, h1, h2]
  · simp [h1]

end
end Go.Proofs.Ytnppjkijhcampaa.Sym
