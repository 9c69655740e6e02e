/- Regions that may be carried out in several orders: one canonical order tells of all. -/
import Derived.OrdersHeld
import Derived.Recover
import Derived.Test.YtjpeefegeobgfaaGreatProg
import Derived.Test.YtjpeefegeobgfaaGreatRows
import Derived.WalkKit
import Derived.ProofKit
import Derived.OpenShut
import Derived.JoinedCond
import Derived.ChangeStays
import Derived.DataReads
import Derived.Test.YtjpeefegeobgfaaGreatQ2

namespace Go.Proofs.YtjpeefegeobgfaaGreat.Sym
open Go
set_option linter.unusedSimpArgs false
set_option linter.unusedVariables false
section
variable {P : Program} {ops : Array Oper} {Q : Exit → Act → World → Prop} {md : Region.Mode} {T : List Nat} {S0 : World → Prop}
def Held (T : List Nat) (S0 : World → Prop) (listed : Array Bool) (w : World) : Prop := (∀ j ∈ T, listed.getD j false = false) → S0 w
def wpAnyL (P : Program) (md : Region.Mode) (ops : Array Oper) (Q : Exit → Act → World → Prop) (T : List Nat) (S0 : World → Prop) : Nat → Array Bool → Act → World → Prop
  | 0, listed, a, w => Region.ready md ops listed = [] ∧ Q .normal a w
  | n + 1, listed, a, w => (Region.ready md ops listed = [] → Q .normal a w) ∧
    ∀ i ∈ Region.ready md ops listed, wpOp P ops Q i (fun a' w' => Held T S0 (listed.setIfInBounds i true) w' ∧ wpAnyL P md ops Q T S0 n (listed.setIfInBounds i true) a' w') a w
theorem wpAnyL.any : ∀ (n : Nat) {listed : Array Bool} {a : Act} {w : World}, wpAnyL P md ops Q T S0 n listed a w → wpAny P md ops Q n listed a w
  | 0, _, _, _, h => h
  | n + 1, _, _, _, h => ⟨h.1, fun i hi => wpOp_mono (fun _ _ h' => wpAnyL.any n h'.2) (h.2 i hi)⟩
theorem wpAnyL.weaken {S1 : World → Prop} (hS : ∀ w, S0 w → S1 w) : ∀ (n : Nat) {listed : Array Bool} {a : Act} {w : World}, wpAnyL P md ops Q T S0 n listed a w → wpAnyL P md ops Q T S1 n listed a w
  | 0, _, _, _, h => h
  | n + 1, _, _, _, h => ⟨h.1, fun i hi => wpOp_mono (fun _ _ h' => ⟨fun ht => hS _ (h'.1 ht), wpAnyL.weaken hS n h'.2⟩) (h.2 i hi)⟩
theorem wpAnyL.first {i : Nat} {oi : Oper} {v : Value} (hi : ops[i]? = some oi) (hsel : ∀ (j : Nat) (o : Oper) cs b, ops[j]? = some o → o.op ≠ .select cs b)
    (hQ : ∀ c a w, Q (.panic c) (a.put oi.dst v) w → Q (.panic c) a w) {Z : List Nat} (hTZ : ∀ j ∈ T, j ∈ Z) (hZ : ∀ j ∈ Z, j ≠ i ∧ ∀ oj, ops[j]? = some oj → ∃ e ∈ oj.after, Region.binds md e = true ∧ (e.on = i ∨ e.on ∈ Z)) :
    ∀ (n : Nat) (listed : Array Bool) (a : Act) (w : World),
      (∀ j oj, ops[j]? = some oj → j ≠ i → listed.getD j true = false → (∀ e ∈ oj.after, Region.binds md e = true → e.on ≠ i) → oi.apart ops oj = true) →
      i ∈ Region.ready md ops listed → YieldsIf P ops S0 oi v a → S0 w → (∀ j ∈ Z, listed.getD j false = false) →
      wpAnyL P md ops Q T S0 n (listed.setIfInBounds i true) (a.put oi.dst v) w → wpAnyL P md ops Q T S0 (n + 1) listed a w := by
  intro n
  induction n with
  | zero =>
    intro listed a w _ hr hy hS hno h
    refine ⟨fun e => (by rw [e] at hr; cases hr), fun j hj => ?_⟩
    by_cases hji : j = i
    · subst hji; exact hy.wpOp hi hS ⟨fun _ => hS, h⟩
    · have := ready_mono hj hji
      rw [h.1] at this
      cases this
  | succ n ih =>
    intro listed a w hfree hr hy hS hno h
    refine ⟨fun e => (by rw [e] at hr; cases hr), fun j hj => ?_⟩
    by_cases hji : j = i
    · subst hji; exact hy.wpOp hi hS ⟨fun _ => hS, h⟩
    · have h1 := h.2 j (ready_mono hj hji)
      obtain ⟨hjun, oj, hoj, hall⟩ := mem_ready.1 hj
      have hnot : ∀ e ∈ oj.after, Region.binds md e = true → e.on ≠ i := fun e he hb heq => by
        have h2 := hall e he hb
        have h0 := (mem_ready.1 hr).1
        rw [heq] at h2
        rcases Nat.lt_or_ge i listed.size with h' | h'
        · simp [h'] at h0 h2; rw [h0] at h2; cases h2
        · simp [Array.getElem?_eq_none h'] at h2
      have hjZ : j ∉ Z := fun hin => by
        obtain ⟨e, he, hb, heq⟩ := (hZ j hin).2 oj hoj
        rcases heq with heq | heq
        · exact hnot e he hb heq
        · have h2 := hall e he hb
          have h0 := hno e.on heq
          rw [Array.getD_eq_getD_getElem?] at h0
          rcases Nat.lt_or_ge e.on listed.size with h' | h'
          · simp [h'] at h0 h2; rw [h0] at h2; cases h2
          · simp [Array.getElem?_eq_none h'] at h2
      have h2 := wpOp_putIf hoj (hfree j oj hoj hji hjun hnot) (fun cs b => hsel i oi cs b hi) (fun cs b => hsel j oj cs b hoj) hQ hy h1
      have hfree' : ∀ k ok, ops[k]? = some ok → k ≠ i → (listed.setIfInBounds j true).getD k true = false →
          (∀ e ∈ ok.after, Region.binds md e = true → e.on ≠ i) → oi.apart ops ok = true := fun k ok hk hki hun hno => by
        refine hfree k ok hk hki ?_ hno
        by_cases hjk : j = k
        · subst hjk; exact hjun
        · rw [getD_set_ne true hjk] at hun; exact hun
      have hno' : ∀ k ∈ Z, (listed.setIfInBounds j true).getD k false = false := fun k hk => by
        rw [getD_set_ne false (fun e => hjZ (by rw [e]; exact hk))]; exact hno k hk
      refine wpOp_mono (fun a' w' h3 => ?_) h2
      have hs : S0 w' := h3.2.1 fun k hk => by
        rw [getD_set_ne false (fun e => hjZ (by rw [e]; exact hTZ k hk)), getD_set_ne false (Ne.symm (hZ k (hTZ k hk)).1)]; exact hno k (hTZ k hk)
      refine ⟨fun _ => hs, ih (listed.setIfInBounds j true) a' w' hfree' (ready_mono hr (Ne.symm hji)) h3.1 hs hno' ?_⟩
      rw [Array.setIfInBounds_comm _ _ hji]
      exact h3.2.2
theorem Oper.wp_monoQ {o : Oper} {a : Act} {w : World} {K : Act → World → Prop} {Q' : Exit → Act → World → Prop} (h : ∀ e a w, Q e a w → Q' e a w) (hh : o.wp P a w K Q) : o.wp P a w K Q' := by
  unfold Oper.wp at *
  generalize (execOp a.eval o).run P w = r at *
  cases r with
  | ok n w' =>
    cases n <;> simp only [Oper.upon] at hh ⊢ <;>
      first
        | exact hh
        | exact h _ _ _ hh
        | exact Calls.mono hh (fun e w'' he => by cases e <;> first | exact he | (obtain ⟨a0, w0, h0⟩ := he; exact ⟨a0, w0, h _ _ _ h0⟩) | exact h _ _ _ he)
        | exact Rows.mono hh (fun _ _ he => he)
  | halt x w' => cases x <;> simp only [Oper.upon] at hh ⊢ <;> first | exact hh | exact h _ _ _ hh
theorem wpOp_monoQ {i : Nat} {K : Act → World → Prop} {Q' : Exit → Act → World → Prop} (h : ∀ e a w, Q e a w → Q' e a w) {a : Act} {w : World} (hh : wpOp P ops Q i K a w) : wpOp P ops Q' i K a w := by
  unfold wpOp at *
  split
  · rename_i ho
    simpa only [ho] using hh
  · rename_i o ho
    simp only [ho] at hh
    split
    · rename_i hw
      simp only [hw, if_true] at hh
      rcases hh with hh | ⟨h1, a0, w0, h2⟩
      · exact .inl (Oper.wp_monoQ h hh)
      · exact .inr ⟨h1, a0, w0, h _ _ _ h2⟩
    · rename_i hw
      simpa [hw] using hh
theorem wpAny_monoQ {Q' : Exit → Act → World → Prop} (h : ∀ e a w, Q e a w → Q' e a w) : ∀ (n : Nat) {listed : Array Bool} {a : Act} {w : World}, wpAny P md ops Q n listed a w → wpAny P md ops Q' n listed a w
  | 0, _, _, _, hh => ⟨hh.1, h _ _ _ hh.2⟩
  | n + 1, _, _, _, hh => ⟨fun e => h _ _ _ (hh.1 e), fun i hi => wpOp_monoQ h (wpOp_mono (fun _ _ h' => wpAny_monoQ h n h') (hh.2 i hi))⟩
def Near (ops : Array Oper) (a a' : Act) : Prop :=
  a'.defers = a.defers ∧ a'.tmps.size = a.tmps.size ∧ ∀ t, (∀ (j : Nat) (oj : Oper), ops[j]? = some oj → oj.dst ≠ some t) → a'.tmps[t]? = a.tmps[t]?
def Qh (ops : Array Oper) (Q : Exit → Act → World → Prop) : Exit → Act → World → Prop
  | .panic c, a, w => ∀ a', Near ops a a' → Q (.panic c) a' w
  | e, a, w => Q e a w
theorem Qh.of {e : Exit} {a : Act} {w : World} (h : Qh ops Q e a w) : Q e a w := by
  cases e <;> first | exact h | exact h a ⟨rfl, rfl, fun _ _ => rfl⟩
theorem Qh.put {i : Nat} {oi : Oper} (hi : ops[i]? = some oi) (v : Value) (c : List PanicEntry) (a : Act) (w : World) (h : Qh ops Q (.panic c) (a.put oi.dst v) w) : Qh ops Q (.panic c) a w := by
  intro a' ⟨h1, h2, h3⟩
  refine h a' ⟨h1.trans (Act.put_defers' _ _ _).symm, ?_, fun t ht => ?_⟩
  · rw [h2]; cases oi.dst <;> simp [Act.put]
  · rw [h3 t ht]
    cases hd : oi.dst with
    | none => rfl
    | some d =>
      have : d ≠ t := by rintro rfl; exact ht i oi hi hd
      simp [Act.put, Array.getElem?_setIfInBounds_ne this]
end
theorem dstMask_bit {ops : Array Oper} {j t : Nat} {oj : Oper} (hj : ops[j]? = some oj) (hd : oj.dst = some t) : (dstMask ops).testBit t = true := by
  unfold dstMask
  have hm : oj ∈ ops.toList := List.mem_of_getElem? (by simpa using hj)
  generalize ops.toList = l at hm
  have mono : ∀ (l : List Oper) (m : Nat), m.testBit t = true → (l.foldl (fun m o => match o.dst with | some d => m ||| 2 ^ d | none => m) m).testBit t = true := by
    intro l
    induction l with
    | nil => intro m h; exact h
    | cons o l ih =>
      intro m h
      rw [List.foldl_cons]
      refine ih _ ?_
      split
      · rw [Nat.testBit_or, h]; rfl
      · exact h
  generalize 0 = m
  induction l generalizing m with
  | nil => cases hm
  | cons o l ih =>
    rw [List.foldl_cons]
    rcases List.mem_cons.1 hm with rfl | hm
    · refine mono l _ ?_
      rw [hd]
      simp only
      rw [Nat.testBit_or, Nat.testBit_two_pow_self, Bool.or_true]
    · exact ih hm _
theorem maskN_sound {G : Gh} {w : World} (m : Nat) : ∀ (i : Nat) {vs : List V} {us us' : List Value}, All2 (Rv G w) vs us → us'.length = us.length → (∀ t, m.testBit (i + t) = false → us'[t]? = us[t]?) → All2 (Rv G w) (maskN m i vs) us'
  | _, [], [], [], _, _, _ => trivial
  | i, v :: vs, u :: us, u' :: us', h, hl, ht => by
    refine ⟨?_, maskN_sound m (i + 1) h.2 (by simpa using hl) fun t h' => ?_⟩
    · cases hb : m.testBit i with
      | true => trivial
      | false =>
        have := ht 0 (by simpa using hb)
        simp only [List.getElem?_cons_zero, Option.some.injEq] at this
        rw [this]; exact h.1
    · have := ht (t + 1) (by rw [← h']; congr 1; omega)
      simpa using this
  | _, [], _ :: _, _, h, _, _ => h.elim
  | _, _ :: _, [], _, h, _, _ => h.elim
  | _, [], [], _ :: _, _, hl, _ => by simp at hl
  | _, _ :: _, _ :: _, [], _, hl, _ => by simp at hl
theorem Rel.mask {F : Fra} {G : Gh} {A : AS} {a a' : Act} {cst : List (Array Value)} {w : World} (R : Rel F G A a.tmps cst w) {ops : Array Oper} (hn : Near ops a a') :
    Rel F G { A with tm := maskN (dstMask ops) 0 A.tm } a'.tmps cst w :=
  ⟨maskN_sound _ 0 R.tm (by simpa using hn.2.1) fun t ht => by
    have := hn.2.2 t fun j oj hj hd => by rw [Nat.zero_add, dstMask_bit hj hd] at ht; cases ht
    simpa using this, R.stk, R.ob, R.gh⟩
def depStep (ops : Array Oper) (i : Nat) (Z : List Nat) (j : Nat) : List Nat := match ops[j]? with
  | some o => bif o.after.any fun e => Region.binds .any e && (e.on == i || Z.any (· == e.on)) then j :: Z else Z
  | none => Z
def depsOn (ops : Array Oper) (i : Nat) : List Nat := (List.range ops.size).foldl (depStep ops i) []
def waitsOn (ops : Array Oper) (j i : Nat) : Bool := (depsOn ops i).any (· == j)
def quietOk (ops : Array Oper) (T : List Nat) (listed : Array Bool) (i : Nat) : Bool :=
  Region.free .any ops listed i && ((Region.ready .any ops listed).contains i && ((T.all fun j => waitsOn ops j i) && (depsOn ops i).all fun j => !(j == i) && !listed.getD j false))
theorem depsOn_spec (ops : Array Oper) (i : Nat) : ∀ j ∈ depsOn ops i, ∀ oj, ops[j]? = some oj → ∃ e ∈ oj.after, Region.binds .any e = true ∧ (e.on = i ∨ e.on ∈ depsOn ops i) := by
  have key : ∀ (l : List Nat) (Z : List Nat), (∀ j ∈ Z, ∀ oj, ops[j]? = some oj → ∃ e ∈ oj.after, Region.binds .any e = true ∧ (e.on = i ∨ e.on ∈ Z)) →
      ∀ j ∈ l.foldl (depStep ops i) Z, ∀ oj, ops[j]? = some oj → ∃ e ∈ oj.after, Region.binds .any e = true ∧ (e.on = i ∨ e.on ∈ l.foldl (depStep ops i) Z) := by
    intro l
    induction l with
    | nil => intro Z h; exact h
    | cons k l ih =>
      intro Z h
      rw [List.foldl_cons]
      refine ih _ fun j hj oj hoj => ?_
      unfold depStep at hj ⊢
      cases hk : ops[k]? with
      | none => rw [hk] at hj; exact h j hj oj hoj
      | some o =>
        rw [hk] at hj
        simp only at hj ⊢
        cases hc : o.after.any fun e => Region.binds .any e && (e.on == i || Z.any (· == e.on)) with
        | false => rw [hc] at hj; exact h j hj oj hoj
        | true =>
          rw [hc] at hj
          simp only [cond_true] at hj ⊢
          rcases List.mem_cons.1 hj with rfl | hj
          · rw [hk] at hoj; cases hoj
            obtain ⟨e, he, hb⟩ := Array.any_eq_true'.1 hc
            simp only [Bool.and_eq_true, Bool.or_eq_true, beq_iff_eq, List.any_eq_true, exists_eq_right] at hb
            exact ⟨e, he, hb.1, hb.2.imp id fun h => List.mem_cons_of_mem _ h⟩
          · obtain ⟨e, he, hb, h2⟩ := h j hj oj hoj
            exact ⟨e, he, hb, h2.imp id fun h => List.mem_cons_of_mem _ h⟩
  exact key _ [] fun j hj => by cases hj
def soleOk (ops : Array Oper) (listed : Array Bool) (i : Nat) : Bool := match Region.ready .any ops listed with
  | [j] => j == i
  | _ => false
def readOk (tt : TT) (ops : Array Oper) (i : Nat) : Bool := match ops[i]? with
  | some o => !isRead tt o.op
  | none => false
def pfO : List (Nat × Nat) → List Nat
  | [] => []
  | (i, m) :: is => bif Nat.beq m 4 then i :: pfO is else pfO is
def addsL (l : Array Bool) : List Nat → Array Bool
  | [] => l
  | j :: js => addsL (l.setIfInBounds j true) js
def floatOk (ops : Array Oper) (j : Nat) : Bool := match ops[j]? with
  | some o => (match o.op with | .alloc _ => true | _ => false) && (o.after.isEmpty && (o.guard.isNone && (match o.dst with
    | some d => (List.range ops.size).all fun k => k == j || (match ops[k]? with | some o' => !(o'.dst == some d) | none => true)
    | none => false)))
  | none => false
def pendOk (ops : Array Oper) (l0 : Array Bool) (pf : List Nat) : Bool := pf.all fun j => floatOk ops j && !l0.getD j true
def soleF (ops : Array Oper) (l0 : Array Bool) (pf : List Nat) (i : Nat) : Bool := (Region.ready .any ops l0).contains i && (Region.ready .any ops (addsL l0 pf)).all (· == i)
def chkD (tt : TT) (ops : Array Oper) (T : List Nat) : Bool → Array Bool → List (Nat × Nat) → Bool
  | _, listed, [] => (Region.ready .any ops listed).isEmpty
  | ph, listed, (i, m) :: is => match m with
    | 0 => quietOk ops T listed i && readOk tt ops i && (!(pfO is).contains i && pendOk ops listed (pfO is)) && chkD tt ops T ph (listed.setIfInBounds i true) is
    | 1 => quietOk ops T listed i && ph && (!(pfO is).contains i && pendOk ops listed (pfO is)) && chkD tt ops T ph (listed.setIfInBounds i true) is
    | 2 => soleOk ops listed i && T.all (fun j => !(j == i)) && (pfO is).isEmpty && chkD tt ops T false (listed.setIfInBounds i true) is
    | n + 3 => bif Nat.beq n 1 then (!(pfO is).contains i && pendOk ops listed (i :: pfO is)) && (Region.ready .any ops (addsL listed (pfO is))).all (· == i) && chkD tt ops T false (listed.setIfInBounds i true) is
      else bif Nat.beq n 3 then soleF ops listed (pfO is) i && T.all (fun j => !(j == i)) && (!(pfO is).contains i && pendOk ops listed (pfO is)) && chkD tt ops T false (listed.setIfInBounds i true) is
      else soleOk ops listed i && (T.any (· == i) && decide (i < listed.size)) && (pfO is).isEmpty && chkD tt ops T false (listed.setIfInBounds i true) is
section
variable {P : Program} {tt : TT} {ops : Array Oper} {T : List Nat}
theorem Qh.post {R : Type} {F : Fra} {G' : Gh} {A' : AS} {a' : Act} {cst : List (Array Value)} {w' : World} {r : R} {K : Ex → AS → Option R} {Q : Exit → Act → World → Prop} {dfs : List Deferred} (hK : Post F cst dfs r K Q)
    (R' : Rel F G' A' a'.tmps cst w') (hd : a'.defers = dfs) {v : V} (hk : K (.panic v) { A' with tm := maskN (dstMask ops) 0 A'.tm } = some r) (u : Value) (hu : Rv G' w' v u) :
    Qh ops Q (.panic [{ v := u, recovered := false }]) a' w' := by
  intro a'' hn
  exact hK (.panic v) _ G' a'' w' (R'.mask hn) (hn.1.trans hd) hk u hu
structure Hold (G0 : Gh) (w0 : World) (hid : List Nat) (G : Gh) (w : World) : Prop where
  sub : ∀ b o, G0.S b o → G.S b o
  mu : ∀ key ∈ hid, ∀ b, G0.mu key = some b → G.mu key = some b
  agr : Agr (· ∈ hid) G0 w0 w
theorem Hold.step {G0 G G' : Gh} {w0 w w' : World} {hid : List Nat} (h : Hold G0 w0 hid G w) (u : UntH G hid w G' w') : Hold G0 w0 hid G' w' where
  sub := fun b o hs => (u.1 b o (h.sub b o hs)).1
  mu := fun key hk b hb => (u.2 key hk b (h.mu key hk b hb)).1
  agr := ⟨fun b o hs => (u.1 b o (h.sub b o hs)).2.trans (h.agr.1 b o hs), fun key b hk hb => (u.2 key hk b (h.mu key hk b hb)).2.trans (h.agr.2 key b hk hb)⟩
theorem addsL_get : ∀ (X : List Nat) (l : Array Bool) (k : Nat), k ∉ X → (addsL l X)[k]? = l[k]?
  | [], _, _, _ => rfl
  | j :: js, l, k, h => by
    rw [addsL, addsL_get js _ k (fun e => h (List.mem_cons_of_mem _ e)), Array.getElem?_setIfInBounds_ne]
    exact fun e => h (e ▸ List.mem_cons_self)
theorem addsL_true : ∀ (X : List Nat) (l : Array Bool) (k : Nat), l.getD k false = true → (addsL l X).getD k false = true
  | [], _, _, h => h
  | j :: js, l, k, h => addsL_true js _ k (getD_set_true h)
theorem addsL_mem : ∀ (X : List Nat) (l : Array Bool) (k : Nat), k ∈ X → k < l.size → (addsL l X).getD k false = true
  | j :: js, l, k, h, hk => by
    rw [addsL]
    rcases List.mem_cons.1 h with rfl | h
    · exact addsL_true js _ _ (by simp [hk])
    · exact addsL_mem js _ k h (by simpa using hk)
theorem pfO_len : ∀ is : List (Nat × Nat), (pfO is).length ≤ is.length
  | [] => Nat.le_refl _
  | (i, m) :: is => by
    rw [pfO]
    cases Nat.beq m 4 with
    | true => have := pfO_len is; simp only [cond_true, List.length_cons]; omega
    | false => have := pfO_len is; simp only [cond_false, List.length_cons]; omega
theorem flD_pfO : ∀ (is : List (Nat × Nat)) {j d : Nat} {o : Oper}, j ∈ pfO is → ops[j]? = some o → o.dst = some d → d ∈ flD ops is
  | [], _, _, _, hj, _, _ => by simp [pfO] at hj
  | (i, m) :: is, j, d, o, hj, ho, hd => by
    rw [pfO] at hj
    rw [flD]
    cases hm : Nat.beq m 4 with
    | true =>
      rw [hm] at hj
      simp only [cond_true] at hj ⊢
      rcases List.mem_cons.1 hj with rfl | hj
      · rw [ho, Option.bind_some, hd]; simp
      · have := flD_pfO is hj ho hd
        split
        · exact List.mem_cons_of_mem _ this
        · exact this
    | false => rw [hm] at hj; exact flD_pfO is hj ho hd
theorem alOk_pfO {tt : TT} {kb : Nat} : ∀ (is : List (Nat × Nat)), alOk tt ops is = true → ∀ {j : Nat}, j ∈ pfO is → ∀ o t d, ops[j]? = some o → o.op = .alloc t → o.dst = some d → ∀ z, ∃ A', evA tt kb z o.dst o.op = some (true, A')
  | [], _, j, hj => by simp [pfO] at hj
  | (i, m) :: is, h, j, hj => by
    intro o t d ho hop hd z
    rw [pfO] at hj
    rw [alOk] at h
    simp only [Bool.and_eq_true] at h
    cases hm : Nat.beq m 4 with
    | true =>
      rw [hm] at hj h
      simp only [cond_true] at hj h
      rcases List.mem_cons.1 hj with rfl | hj
      · have h1 := h.1
        rw [ho] at h1
        simp only [hop] at h1
        rw [hop, hd]
        simp only [evA]
        rw [h1]
        exact ⟨_, rfl⟩
      · exact alOk_pfO is h.2 hj o t d ho hop hd z
    | false => rw [hm] at hj; exact alOk_pfO is h.2 hj o t d ho hop hd z
theorem floatOk_spec {j : Nat} (h : floatOk ops j = true) : ∃ o t d, ops[j]? = some o ∧ o.op = .alloc t ∧ o.after = #[] ∧ o.guard = none ∧ o.dst = some d ∧ ∀ k o', k ≠ j → ops[k]? = some o' → o'.dst ≠ some d := by
  unfold floatOk at h
  split at h
  · rename_i o ho
    simp only [Bool.and_eq_true] at h
    obtain ⟨h1, h2, h3, h4⟩ := h
    split at h1
    · rename_i t ht
      split at h4
      · rename_i d hd
        refine ⟨o, t, d, ho, ht, by simpa using h2, by simpa using h3, hd, fun k o' hk hk' => ?_⟩
        simp only [List.all_eq_true, List.mem_range, Bool.or_eq_true, beq_iff_eq] at h4
        have := (h4 k (Array.getElem?_eq_some_iff.1 hk').1).resolve_left hk
        rw [hk'] at this
        simpa using this
      · cases h4
    · cases h1
  · cases h
theorem pendOk_spec {l0 : Array Bool} {pf : List Nat} (h : pendOk ops l0 pf = true) : ∀ j ∈ pf, floatOk ops j = true ∧ l0.getD j true = false := by
  intro j hj
  have := List.all_eq_true.1 h j hj
  simpa using this
theorem V.map_noKey {v : V} {k : Nat} (h : v.hasKey k = false) : v.map (C.noKey k) = v := by
  have hl : ∀ cs : List C, cs.any (·.hasKey k) = false → cs.map (C.noKey k) = cs := fun cs h => by
    conv => rhs; rw [← List.map_id cs]
    refine List.map_congr_left fun c hc => ?_
    have := List.any_eq_false.1 h c hc
    simp [C.noKey, this]
  cases v with
  | one c => simp only [V.map]; simp only [V.hasKey] at h; simp [C.noKey, h]
  | agg cs => simp only [V.map]; rw [hl cs h]
  | tup ps =>
    simp only [V.map]
    congr 1
    conv => rhs; rw [← List.map_id ps]
    refine List.map_congr_left fun p hp => ?_
    have := List.any_eq_false.1 h p hp
    rw [hl p.2 (by simpa using this)]; rfl
  | any => rfl
theorem AS.map_noKey {A : AS} {k : Nat} (h : A.uses k = false) : A.map (C.noKey k) = A := by
  unfold AS.uses at h
  simp only [Bool.or_eq_false_iff] at h
  obtain ⟨⟨h1, h2⟩, h3⟩ := h
  obtain ⟨tm, stk, ob⟩ := A
  have ht : ∀ vs : List V, (∀ v ∈ vs, v.map (C.noKey k) = v) → vs.map (V.map (C.noKey k)) = vs := fun vs h => by
    conv => rhs; rw [← List.map_id vs]
    exact List.map_congr_left h
  simp only [AS.map]
  congr 1
  · exact ht tm fun v hv => V.map_noKey (by have := List.any_eq_false.1 h1 v hv; simpa using this)
  · conv => rhs; rw [← List.map_id stk]
    refine List.map_congr_left fun vs hvs => ?_
    have := List.any_eq_false.1 h2 vs hvs
    exact ht vs fun v hv => V.map_noKey (by
      have h' : vs.any (·.hasKey k) = false := by simpa using this
      have := List.any_eq_false.1 h' v hv; simpa using this)
  · conv => rhs; rw [← List.map_id ob]
    refine List.map_congr_left fun o ho => ?_
    have := List.any_eq_false.1 h3 o ho
    cases o with
    | none => rfl
    | some cs =>
      have h' : cs.any (·.hasKey k) = false := by simpa using this
      simp only [Option.map_some, id]
      congr 1
      conv => rhs; rw [← List.map_id cs]
      refine List.map_congr_left fun c hc => ?_
      have := List.any_eq_false.1 h' c hc
      simp [C.noKey, this]
theorem Rc.noKey' {G : Gh} {w : World} {c : C} {v : Value} (k : Nat) (h : Rc G w c v) : Rc G w (c.noKey k) v := by
  unfold C.noKey
  split
  · exact h.cell
  · exact h
theorem Rel.forgetO {F : Fra} {G : Gh} {A : AS} {ts : Array Value} {cst : List (Array Value)} {w : World} (R : Rel F G A ts cst w) (k : Nat) : Rel F G (A.forgetO k) ts cst w := by
  have R' := R.map (f := C.noKey k) (fun c v h => h.noKey' k) (noKey_itr k) (fun _ _ h => ⟨h, rfl⟩) R.gh
  refine ⟨R'.tm, R'.stk, fun j cs hj => ?_, R.gh⟩
  simp only [AS.forgetO, List.getElem?_set] at hj
  split at hj
  · split at hj <;> cases hj
  · exact R'.ob j cs hj
theorem Rel.anyT {F : Fra} {G : Gh} {A : AS} {ts : Array Value} {cst : List (Array Value)} {w : World} (R : Rel F G A ts cst w) (d : Nat) : Rel F G (A.put (some d) .any) ts cst w :=
  ⟨R.tm.set_left d fun _ _ => trivial, R.stk, R.ob, R.gh⟩
theorem Rel.clean {F : Fra} {G : Gh} {ts : Array Value} {cst : List (Array Value)} {w : World} {kb : Nat} : ∀ (ds : List Nat) {A : AS}, Rel F G A ts cst w → Rel F G (cleanD kb ds A) ts cst w
  | [], _, R => R
  | d :: ds, _, R => Rel.clean ds ((R.forgetO (kb + d)).anyT d)
theorem All2.set_right {α β : Type} {R : α → β → Prop} : ∀ {xs : List α} {ys : List β} (n : Nat) {b : β}, All2 R xs ys → (∀ a, xs[n]? = some a → R a b) → All2 R xs (ys.set n b)
  | [], [], _, _, _, _ => by simp [All2]
  | _ :: _, _ :: _, 0, _, h, h' => ⟨h' _ rfl, h.2⟩
  | _ :: _, _ :: _, n + 1, _, h, h' => ⟨h.1, All2.set_right n h.2 fun b hb => h' b (by simpa using hb)⟩
  | [], _ :: _, _, _, h, _ => h.elim
  | _ :: _, [], _, _, h, _ => h.elim
theorem Rel.newFl {F : Fra} {G : Gh} {A : AS} {ts : Array Value} {cst : List (Array Value)} {w w' : World} {kb d : Nat} (R : Rel F G A ts cst w) (g : Grew w w') (hk0 : F.mu0 (kb + d) = none) (hc : isClean kb A d = true) (u : Value) :
    Rel F (G.newOb (kb + d) w.heap.size) A (ts.setIfInBounds d u) cst w' := by
  unfold isClean at hc
  simp only [Bool.and_eq_true, Bool.not_eq_true'] at hc
  obtain ⟨h1, h2, h3⟩ := hc
  have e := AS.map_noKey h1
  have go := Goes.newOb R.gh g (kb + d)
  have hf : ∀ c v, Rc G w c v → Rc (G.newOb (kb + d) w.heap.size) w' (c.noKey (kb + d)) v := fun c v h => h.noKey go
  have ht : All2 (Rv (G.newOb (kb + d) w.heap.size) w') (A.map (C.noKey (kb + d))).tm ts.toList := R.tm.map_left _ fun a b h => Rv.map hf h
  have hs : All2 (fun vs (t : Array Value) => All2 (Rv (G.newOb (kb + d) w.heap.size) w') vs t.toList) (A.map (C.noKey (kb + d))).stk cst := R.stk.map_left _ fun a b h => h.map_left _ fun a b h => Rv.map hf h
  rw [e] at ht hs
  refine ⟨?_, hs, fun k cs hk => ?_, R.gh.newOb g (kb + d) hk0⟩
  · rw [Array.toList_setIfInBounds]
    refine ht.set_right d fun v hv => ?_
    rw [hv] at h2
    cases v <;> first | trivial | cases h2
  · have hne : k ≠ kb + d := by rintro rfl; rw [hk] at h3; cases h3
    have hk' : (A.map (C.noKey (kb + d))).ob[k]? = some (some cs) := by rw [e]; exact hk
    obtain ⟨cs0, h0, rfl⟩ := AS.map_ob hk'
    obtain ⟨b, o', hm, hh', hr'⟩ := R.ob k cs0 h0
    exact ⟨b, o', by simp [Gh.newOb, hne, hm], (g.old b (R.gh.mu k b hm).2.2).trans hh', hr'.map hf (noKey_itr _)⟩
theorem run_allocZ (htt : TTok P tt) {o : Oper} {t d kb : Nat} {A A' : AS} {chk : Bool} (ho : o.op = .alloc t) (hd : o.dst = some d) (h : evA tt kb A o.dst o.op = some (chk, A')) (a : Act) (w : World) :
    ∃ cur : Array Value, (execOp a.eval o).run P w = .ok (.value (.pointer (some ⟨w.heap.size, 0, none⟩))) (w.alloc (.cells cur t)) ∧ cur.toList = (tt.at t).zero ∧ (tt.at t).zero.all Value.oneCell' = true ∧
      A' = (A.newOb (kb + d) (zeroCs tt (idCell (kb + d) 0) t)).put (some d) (.one (.ptr (kb + d) 0)) := by
  rw [ho, hd] at h
  simp only [evA] at h
  cases hz : (szOf tt t).isSome && (tt.at t).zero.all Value.oneCell' with
  | false => rw [hz] at h; cases h
  | true =>
    rw [hz] at h
    simp only [cond_true, Option.some.injEq, Prod.mk.injEq] at h
    obtain ⟨_, rfl⟩ := h
    simp only [Bool.and_eq_true] at hz
    obtain ⟨n, hn⟩ := Option.isSome_iff_exists.1 hz.1
    obtain ⟨hT, _⟩ := szOf_sound htt hn
    obtain ⟨z, hzr, hzc, _⟩ := hT.zero w
    refine ⟨z.cells, ?_, hzc, hz.2, rfl⟩
    obtain ⟨dst, op, type, pos, after, guard⟩ := o
    simp only at ho hd
    subst ho
    simp [execOp, Instr.alloc, hzr, newVar, run_newRow]
def FlDone (tt : TT) (ops : Array Oper) (kb j : Nat) (G : Gh) (a : Act) (w : World) : Prop :=
  ∃ (o : Oper) (t d b : Nat) (cur : Array Value), ops[j]? = some o ∧ o.op = .alloc t ∧ o.dst = some d ∧ G.mu (kb + d) = some b ∧ (∀ u, a.tmps[d]? = some u → u = .pointer (some ⟨b, 0, none⟩)) ∧
    w.heap[b]? = some (.cells cur t (0, 0)) ∧ cur.toList = (tt.at t).zero
theorem Act.put_get {a : Act} {dst : Option Tmp} {d : Nat} (h : dst ≠ some d) (u : Value) : (a.put dst u).tmps[d]? = a.tmps[d]? := by
  cases dst with
  | none => rfl
  | some d' =>
    have : d' ≠ d := fun e => h (by rw [e])
    simp [Act.put, Array.getElem?_setIfInBounds_ne this]
theorem FlDone.put {kb i j : Nat} {oi : Oper} {G : Gh} {a : Act} {w : World} (h : FlDone tt ops kb j G a w) (hf : floatOk ops j = true) (hi : ops[i]? = some oi) (hne : i ≠ j) (u : Value) : FlDone tt ops kb j G (a.put oi.dst u) w := by
  obtain ⟨o, t, d, b, cur, ho, h1, h2, h3, h4, h5, h6⟩ := h
  refine ⟨o, t, d, b, cur, ho, h1, h2, h3, fun v hv => h4 v ?_, h5, h6⟩
  obtain ⟨o', t', d', ho', _, _, _, hd', hall⟩ := floatOk_spec hf
  rw [ho] at ho'; cases ho'
  rw [h2] at hd'; cases hd'
  rw [Act.put_get (hall i oi hne hi)] at hv
  exact hv
theorem FlDone.unt {kb j : Nat} {ks : List Nat} {G G' : Gh} {a : Act} {w w' : World} (h : FlDone tt ops kb j G a w) (hk : ∀ o d, ops[j]? = some o → o.dst = some d → kb + d ∈ ks) (hu : UntH G ks w G' w') : FlDone tt ops kb j G' a w' := by
  obtain ⟨o, t, d, b, cur, ho, h1, h2, h3, h4, h5, h6⟩ := h
  obtain ⟨e1, e2⟩ := hu.2 _ (hk o d ho h2) b h3
  exact ⟨o, t, d, b, cur, ho, h1, h2, e1, h4, e2.trans h5, h6⟩
theorem Rel.found {F : Fra} {G : Gh} {A : AS} {a : Act} {cst : List (Array Value)} {w : World} {kb d t b : Nat} {cur : Array Value} (R : Rel F G A a.tmps cst w) (h3 : G.mu (kb + d) = some b) (h4 : ∀ u, a.tmps[d]? = some u → u = .pointer (some ⟨b, 0, none⟩))
    (h5 : w.heap[b]? = some (.cells cur t (0, 0))) (h6 : cur.toList = (tt.at t).zero) (hz : (tt.at t).zero.all Value.oneCell' = true) :
    Rel F G ((A.newOb (kb + d) (zeroCs tt (idCell (kb + d) 0) t)).put (some d) (.one (.ptr (kb + d) 0))) a.tmps cst w := by
  have R' := R.map (f := C.noKey (kb + d)) (fun c v h => h.noKey' (kb + d)) (noKey_itr _) (fun _ _ h => ⟨h, rfl⟩) R.gh
  refine ⟨?_, R'.stk, ?_, R.gh⟩
  · refine R'.tm.set_left d fun u hu => ?_
    rw [Array.getElem?_toList] at hu
    exact ⟨b, h3, h4 u hu⟩
  · intro k cs hk
    rcases getElem?_newOb' _ (kb + d) k _ cs hk with ⟨rfl, rfl⟩ | ⟨hne, hk'⟩
    · exact ⟨b, _, h3, h5, .inl ⟨cur, t, rfl, by rw [h6]; exact zeroCs_sound _ _ hz⟩⟩
    · exact R'.ob k cs hk'
structure FlSt (P : Program) (tt : TT) (ops : Array Oper) (T : List Nat) (kb : Nat) (F : Fra) (cst : List (Array Value)) (dfs : List Deferred) (A : AS) (hid : List Nat) (G0 : Gh) (w0 : World) (l0 : Array Bool) (pf : List Nat) (L : Nat)
    (ud : List Nat) (n : Nat) (listed : Array Bool) (G : Gh) (a : Act) (w : World) : Prop where
  size : listed.size = l0.size
  get : ∀ k, k ∉ pf → listed[k]? = l0[k]?
  nodup : ud.Nodup
  und : ∀ j ∈ ud, j ∈ pf ∧ listed[j]? = l0[j]?
  done : ∀ j ∈ pf, j ∉ ud → listed.getD j false = true ∧ FlDone tt ops kb j G a w
  cnt : n + pf.length = L + ud.length
  rel : Rel F G A a.tmps cst w
  hold : (∀ j ∈ T, listed.getD j false = false) → Hold G0 w0 hid G w
  dfs : a.defers = dfs
theorem getD_of_get {l l' : Array Bool} {k : Nat} (h : l[k]? = l'[k]?) (d : Bool) : l.getD k d = l'.getD k d := by
  rw [Array.getD_eq_getD_getElem?, Array.getD_eq_getD_getElem?, h]
theorem FlSt.fl (htt : TTok P tt) {kb : Nat} {F : Fra} (hkb : ∀ d, F.mu0 (kb + d) = none) {cst : List (Array Value)} {dfs : List Deferred} {A : AS} {hid : List Nat} {G0 : Gh} {w0 : World} {l0 : Array Bool} {pf : List Nat} {L : Nat}
    {ud : List Nat} {n : Nat} {listed : Array Bool} {G : Gh} {a : Act} {w : World} (S : FlSt P tt ops T kb F cst dfs A hid G0 w0 l0 pf L ud (n + 1) listed G a w) (hp : pendOk ops l0 pf = true)
    (hcl : ∀ j ∈ pf, ∀ o d, ops[j]? = some o → o.dst = some d → isClean kb A d = true) (hal : ∀ j ∈ pf, ∀ o t d, ops[j]? = some o → o.op = .alloc t → o.dst = some d → ∀ z, ∃ A', evA tt kb z o.dst o.op = some (true, A'))
    (hhid : ∀ j ∈ pf, ∀ o d, ops[j]? = some o → o.dst = some d → kb + d ∉ hid)
    {Q : Exit → Act → World → Prop} {k : Nat} (hk : k ∈ ud) : wpOp P ops Q k (fun a' w' => ∃ G', FlSt P tt ops T kb F cst dfs A hid G0 w0 l0 pf L (ud.erase k) n (listed.setIfInBounds k true) G' a' w') a w := by
  obtain ⟨hkp, hkl⟩ := S.und k hk
  obtain ⟨hf, hu0⟩ := pendOk_spec hp k hkp
  obtain ⟨o, t, d, ho, hop, haf, hgd, hd, hall⟩ := floatOk_spec hf
  obtain ⟨A', hz⟩ := hal k hkp o t d ho hop hd A
  obtain ⟨cur, hrun, hcur, hzz, _⟩ := run_allocZ htt hop hd hz a w
  have hlt : k < l0.size := by
    rcases Nat.lt_or_ge k l0.size with h | h
    · exact h
    · rw [Array.getD_eq_getD_getElem?, Array.getElem?_eq_none h] at hu0; cases hu0
  unfold wpOp
  rw [ho]
  simp only
  rw [if_pos (by simp [Region.wanted, hgd])]
  refine .inl ?_
  unfold Oper.wp
  rw [hrun]
  simp only [Oper.upon]
  have hg := Grew.alloc w (.cells cur t)
  have go := Goes.newOb S.rel.gh hg (kb + d)
  have hh : (w.alloc (.cells cur t)).heap[w.heap.size]? = some (.cells cur t (0, 0)) := heap_alloc_new w _
  refine ⟨G.newOb (kb + d) w.heap.size, ⟨by simp [S.size], fun j hj => ?_, S.nodup.erase _, fun j hj => ?_, fun j hj hju => ?_, ?_, ?_, fun hT => ?_, (Act.put_defers' _ _ _).trans S.dfs⟩⟩
  · rw [Array.getElem?_setIfInBounds_ne (by rintro rfl; exact hj hkp)]; exact S.get j hj
  · have hjk : j ≠ k := by rintro rfl; exact absurd hj (by rw [S.nodup.mem_erase_iff]; simp)
    obtain ⟨h1, h2⟩ := S.und j (List.mem_of_mem_erase hj)
    exact ⟨h1, by rw [Array.getElem?_setIfInBounds_ne (Ne.symm hjk)]; exact h2⟩
  · by_cases hjk : j = k
    · subst hjk
      refine ⟨by simp [S.size, hlt], o, t, d, w.heap.size, cur, ho, hop, hd, by simp [Gh.newOb], fun u hu => ?_, hh, hcur⟩
      rw [hd] at hu
      simp only [Act.put, Array.getElem?_setIfInBounds_self] at hu
      split at hu
      · cases hu; rfl
      · cases hu
    · have hju' : j ∉ ud := fun h => hju (by rw [S.nodup.mem_erase_iff]; exact ⟨hjk, h⟩)
      obtain ⟨h1, h2⟩ := S.done j hj hju'
      refine ⟨getD_set_true h1, ?_⟩
      have h3 := h2.put (pendOk_spec hp j hj).1 ho (Ne.symm hjk) (.pointer (some ⟨w.heap.size, 0, none⟩))
      obtain ⟨o', t', d', b', cur', ho', g1, g2, g3, g4, g5, g6⟩ := h3
      have hdd : d' ≠ d := by rintro rfl; exact hall j o' hjk ho' g2
      exact ⟨o', t', d', b', cur', ho', g1, g2, by simp [Gh.newOb, hdd, g3], g4, (hg.old b' (S.rel.gh.mu _ b' g3).2.2).trans g5, g6⟩
  · have h1 := S.cnt
    have h2 : (ud.erase k).length + 1 = ud.length := by
      have := List.length_erase_of_mem hk
      have := List.length_pos_of_mem hk
      omega
    omega
  · have := S.rel.newFl hg (hkb d) (hcl k hkp o d ho hd) (.pointer (some ⟨w.heap.size, 0, none⟩))
    rw [hd]
    exact this
  · have h0 := S.hold fun j hj => by
      cases hh : listed.getD j false with
      | false => rfl
      | true => have := hT j hj; rw [getD_set_true hh] at this; cases this
    refine h0.step ⟨go.kept, fun key hkey b hb => ?_⟩
    have : key ≠ kb + d := by rintro rfl; exact hhid k hkp o d ho hd hkey
    exact ⟨by simp [Gh.newOb, this, hb], hg.old b (S.rel.gh.mu key b hb).2.2⟩
theorem ready_up {l0 listed : Array Bool} {pf : List Nat} (hp : pendOk ops l0 pf = true) (hg : ∀ k, k ∉ pf → listed[k]? = l0[k]?) {i : Nat} (hip : i ∉ pf) (hr : i ∈ Region.ready .any ops l0) : i ∈ Region.ready .any ops listed := by
  rw [mem_ready] at hr ⊢
  obtain ⟨h1, o', h2, h3⟩ := hr
  refine ⟨by rw [getD_of_get (hg i hip)]; exact h1, o', h2, fun e he hb => ?_⟩
  have h4 := h3 e he hb
  by_cases hep : e.on ∈ pf
  · have := (pendOk_spec hp _ hep).2
    rw [Array.getD_eq_getD_getElem?] at this h4
    cases hx : l0[e.on]? with
    | none => rw [hx] at this; cases this
    | some x => rw [hx] at this h4; simp at this h4; rw [this] at h4; cases h4
  · rw [getD_of_get (hg _ hep)]; exact h4
theorem pend_lt {l0 : Array Bool} {pf : List Nat} (hp : pendOk ops l0 pf = true) {j : Nat} (hj : j ∈ pf) : j < l0.size := by
  have := (pendOk_spec hp j hj).2
  rcases Nat.lt_or_ge j l0.size with h | h
  · exact h
  · rw [Array.getD_eq_getD_getElem?, Array.getElem?_eq_none h] at this; cases this
theorem ready_dn {l0 listed : Array Bool} {X : List Nat} {k : Nat} (hX : ∀ j ∈ X, j < l0.size) (hl : ∀ j, listed.getD j false = true → j ∈ X ∨ l0.getD j false = true) (hkX : k ∉ X) (hk : listed[k]? = l0[k]?) (hr : k ∈ Region.ready .any ops listed) :
    k ∈ Region.ready .any ops (addsL l0 X) := by
  rw [mem_ready] at hr ⊢
  obtain ⟨h1, o', h2, h3⟩ := hr
  refine ⟨?_, o', h2, fun e he hb => ?_⟩
  · rw [getD_of_get ((addsL_get X l0 k hkX).trans hk.symm)]; exact h1
  · rcases hl _ (h3 e he hb) with h | h
    · exact addsL_mem X l0 _ h (hX _ h)
    · exact addsL_true X l0 _ h
theorem not_ready {listed : Array Bool} {k : Nat} (h : listed.getD k false = true) : k ∉ Region.ready .any ops listed := by
  intro hr
  have h0 := (mem_ready.1 hr).1
  rw [Array.getD_eq_getD_getElem?] at h h0
  cases hx : listed[k]? with
  | none => rw [hx] at h0; cases h0
  | some x => rw [hx] at h h0; simp at h h0; rw [h] at h0; cases h0
theorem FlSt.next {kb : Nat} {F : Fra} {cst : List (Array Value)} {dfs : List Deferred} {A A' : AS} {hid hid' : List Nat} {G0 : Gh} {w0 : World} {l0 : Array Bool} {pf : List Nat} {L : Nat}
    {ud : List Nat} {n : Nat} {listed : Array Bool} {G G' : Gh} {a : Act} {w w' : World} (S : FlSt P tt ops T kb F cst dfs A hid G0 w0 l0 pf (L + 1) ud (n + 1) listed G a w) {i : Nat} {o : Oper} (ho : ops[i]? = some o) (hip : i ∉ pf)
    (hpe : pendOk ops l0 pf = true) {u : Value} {ks : List Nat} (hk : ∀ j ∈ pf, ∀ o d, ops[j]? = some o → o.dst = some d → kb + d ∈ ks) (hu : UntH G ks w G' w') (hR : Rel F G' A' (a.put o.dst u).tmps cst w')
    (hold : (∀ j ∈ T, listed.getD j false = false) → Hold G0 w0 hid' G' w') :
    FlSt P tt ops T kb F cst dfs A' hid' G0 w0 (l0.setIfInBounds i true) pf L ud n (listed.setIfInBounds i true) G' (a.put o.dst u) w' := by
  refine ⟨by simp [S.size], fun k hk => ?_, S.nodup, fun j hj => ?_, fun j hj hju => ?_, ?_, hR, fun hT' => ?_, (Act.put_defers' _ _ _).trans S.dfs⟩
  · by_cases hki : k = i
    · rw [hki, Array.getElem?_setIfInBounds_self, Array.getElem?_setIfInBounds_self, S.size]
    · rw [Array.getElem?_setIfInBounds_ne (Ne.symm hki), Array.getElem?_setIfInBounds_ne (Ne.symm hki)]; exact S.get k hk
  · obtain ⟨h1, h2⟩ := S.und j hj
    have hji : i ≠ j := by rintro rfl; exact hip h1
    exact ⟨h1, by rw [Array.getElem?_setIfInBounds_ne hji, Array.getElem?_setIfInBounds_ne hji]; exact h2⟩
  · obtain ⟨h1, h2⟩ := S.done j hj hju
    exact ⟨getD_set_true h1, (h2.unt (hk j hj) hu).put (pendOk_spec hpe j hj).1 ho (by rintro rfl; exact hip hj) u⟩
  · have := S.cnt; omega
  · exact hold fun j hj => by
      cases hh : listed.getD j false with
      | false => rfl
      | true => have := hT' j hj; rw [getD_set_true hh] at this; cases this
theorem evD_sound (htt : TTok P tt) {hd : Hd} (hh : HdOk P hd) (hs : Region.noSelect ops = true) {R : Type} {F : Fra} {cst : List (Array Value)} {kb : Nat} (hkb : ∀ d, F.mu0 (kb + d) = none) {r : R} {Q : Exit → Act → World → Prop} {G0 : Gh} {w0 : World} :
    ∀ (is : List (Nat × Nat)) {ph : Bool} {l0 listed : Array Bool} {ud : List Nat} {n : Nat} {hid : List Nat} {G : Gh} {A : AS} {a : Act} {w : World} {K : Ex → AS → Option R} {dfs : List Deferred},
    chkD tt ops T ph l0 is = true → evD tt hd kb ops is hid A K = some r → Post F cst dfs r K Q →
    FlSt P tt ops T kb F cst dfs A hid G0 w0 l0 (pfO is) is.length ud n listed G a w → (ph = true → G = G0 ∧ w = w0) →
    wpAnyL P .any ops (Qh ops Q) T (Agr (· ∈ hid) G0 w0) n listed a w
  | [], ph, l0, listed, ud, n, hid, G, A, a, w, K, dfs, hc, h, hK, S, hph => by
    simp only [chkD, List.isEmpty_iff] at hc
    have hud : ud = [] := by
      cases ud with
      | nil => rfl
      | cons x xs => exact absurd (S.und x (by simp)).1 (by simp [pfO])
    have hn : n = 0 := by have := S.cnt; subst hud; simp [pfO] at this; exact this
    have hl : listed = l0 := Array.ext_getElem? fun k => S.get k (by simp [pfO])
    subst hn hl
    exact ⟨hc, hK .normal A G a w S.rel S.dfs h⟩
  | (i, m) :: is, ph, l0, listed, ud, n, hid, G, A, a, w, K, dfs, hc, h, hK, S, hph => by
    obtain rfl := S.dfs
    simp only [evD] at h
    cases ho : ops[i]? with
    | none => rw [ho] at h; cases h
    | some o =>
      rw [ho] at h
      simp only at h
      have hpl := pfO_len is
      -- quiet steps
      have quiet : ∀ (hid' : List Nat), pfO ((i, m) :: is) = pfO is → quietOk ops T l0 i = true → (!(pfO is).contains i && pendOk ops l0 (pfO is)) = true → (∀ w', Agr (· ∈ hid') G0 w0 w' → Agr (· ∈ hid) G0 w0 w') → ((∀ j ∈ T, listed.getD j false = false) → Hold G0 w0 hid' G w) →
          ∀ v, YieldsIf P ops (Agr (· ∈ hid') G0 w0) o v a → ∀ A', Rel F G A' (a.put o.dst v).tmps cst w →
          (∀ n', FlSt P tt ops T kb F cst (a.put o.dst v).defers A' hid' G0 w0 (l0.setIfInBounds i true) (pfO is) is.length ud n' (listed.setIfInBounds i true) G (a.put o.dst v) w → wpAnyL P .any ops (Qh ops Q) T (Agr (· ∈ hid') G0 w0) n' (listed.setIfInBounds i true) (a.put o.dst v) w) →
          wpAnyL P .any ops (Qh ops Q) T (Agr (· ∈ hid) G0 w0) n listed a w := by
        intro hid' hpf hq hpe hm hA v hy A' hR hrest
        rw [hpf] at S
        simp only [Bool.and_eq_true, Bool.not_eq_true', List.contains_eq_mem, decide_eq_false_iff_not] at hpe
        obtain ⟨hip, hpe⟩ := hpe
        simp only [quietOk, Bool.and_eq_true, List.all_eq_true, Bool.not_eq_true', beq_eq_false_iff_ne, waitsOn, List.any_eq_true, beq_iff_eq, exists_eq_right] at hq
        obtain ⟨hf, hr, hT, hZ⟩ := hq
        have hnZ : ∀ j ∈ depsOn ops i, j ∉ pfO is := fun j hj hjp => by
          obtain ⟨o', t, d, ho', _, haf, _⟩ := floatOk_spec (pendOk_spec hpe j hjp).1
          obtain ⟨e, he, _⟩ := depsOn_spec ops i j hj o' ho'
          rw [haf] at he; simp at he
        have hZl : ∀ j ∈ depsOn ops i, listed.getD j false = false := fun j hj => by rw [getD_of_get (S.get j (hnZ j hj))]; exact (hZ j hj).2
        have hir : i ∈ Region.ready .any ops listed := by
          have hr' : i ∈ Region.ready .any ops l0 := by simpa using hr
          rw [mem_ready] at hr' ⊢
          obtain ⟨h1, o', h2, h3⟩ := hr'
          refine ⟨by rw [getD_of_get (S.get i hip)]; exact h1, o', h2, fun e he hb => ?_⟩
          have h4 := h3 e he hb
          by_cases hep : e.on ∈ pfO is
          · have := (pendOk_spec hpe _ hep).2
            rw [Array.getD_eq_getD_getElem?] at this h4
            cases hx : l0[e.on]? with
            | none => rw [hx] at this; cases this
            | some x => rw [hx] at this h4; simp at this h4; rw [this] at h4; cases h4
          · rw [getD_of_get (S.get _ hep)]; exact h4
        obtain ⟨n', rfl⟩ : ∃ n', n = n' + 1 := ⟨n - 1, by have := S.cnt; simp only [List.length_cons] at this; omega⟩
        refine (wpAnyL.first ho (Region.noSelect_spec hs) (fun c a w => Qh.put ho v c a w) hT (fun j hj => ⟨(hZ j hj).1, depsOn_spec ops i j hj⟩) n' listed a w (fun j oj hoj hji hjl hjd => ?_) hir hy
          (hA fun j hj => hZl j (hT j hj)).agr hZl (hrest n' ⟨by simp [S.size], fun k hk => ?_, S.nodup, fun j hj => ?_, fun j hj hju => ?_, ?_, hR, fun hT' => ?_, rfl⟩)).weaken hm
        · refine Region.free_spec ho hf j oj hoj hji ?_ hjd
          by_cases hjp : j ∈ pfO is
          · exact (pendOk_spec hpe j hjp).2
          · rw [← getD_of_get (S.get j hjp)]; exact hjl
        · by_cases hki : k = i
          · rw [hki, Array.getElem?_setIfInBounds_self, Array.getElem?_setIfInBounds_self, S.size]
          · rw [Array.getElem?_setIfInBounds_ne (Ne.symm hki), Array.getElem?_setIfInBounds_ne (Ne.symm hki)]; exact S.get k hk
        · obtain ⟨h1, h2⟩ := S.und j hj
          have hji : i ≠ j := by rintro rfl; exact hip h1
          exact ⟨h1, by rw [Array.getElem?_setIfInBounds_ne hji, Array.getElem?_setIfInBounds_ne hji]; exact h2⟩
        · obtain ⟨h1, h2⟩ := S.done j hj hju
          exact ⟨getD_set_true h1, h2.put (pendOk_spec hpe j hj).1 ho (by rintro rfl; exact hip hj) v⟩
        · have h1 := S.cnt; have h2 : ((i, m) :: is).length = is.length + 1 := List.length_cons; omega
        · exact hA fun j hj => by
            cases hh : listed.getD j false with
            | false => rfl
            | true => have := hT' j hj; rw [getD_set_true hh] at this; cases this
      have hset : ∀ j ∈ T, j ≠ i → (listed.setIfInBounds i true).getD j false = listed.getD j false := fun j _ hne => getD_set_ne false (Ne.symm hne)
      -- steps that come alone
      have sole : ∀ (hid' : List Nat), pfO is = [] → pfO ((i, m) :: is) = pfO is → soleOk ops l0 i = true → (∀ (a' : Act) (w' : World) (G' : Gh) (A' : AS), Rel F G' A' a'.tmps cst w' → a'.defers = a.defers → UntH G hid' w G' w' → evD tt hd kb ops is hid A' K = some r →
            Held T (Agr (· ∈ hid) G0 w0) (listed.setIfInBounds i true) w' ∧ (Hold G0 w0 hid G' w' ∨ ¬ ∀ j ∈ T, (listed.setIfInBounds i true).getD j false = false)) →
          chkD tt ops T false (l0.setIfInBounds i true) is = true →
          guarded ops o A (fun A => evOp tt hd kb hid' o A fun ex A' => match ex with
            | .normal => evD tt hd kb ops is hid A' K
            | .panic v => K (.panic v) { A' with tm := maskN (dstMask ops) 0 A'.tm }
            | ex => K ex A') (fun A => evD tt hd kb ops is hid A K) = some r →
          wpAnyL P .any ops (Qh ops Q) T (Agr (· ∈ hid) G0 w0) n listed a w := by
        intro hid' hpe hpf hs1 hho hc hgd
        rw [hpf, hpe] at S
        have hud : ud = [] := by
          cases ud with
          | nil => rfl
          | cons x xs => exact absurd (S.und x (by simp)).1 (by simp)
        have hn : n = is.length + 1 := by have := S.cnt; subst hud; simp at this; exact this
        have hl : listed = l0 := Array.ext_getElem? fun k => S.get k (by simp)
        subst hn hl hud
        have hr : Region.ready .any ops listed = [i] := by
          unfold soleOk at hs1
          split at hs1
          · rename_i j e
            rw [e, beq_iff_eq.1 hs1]
          · cases hs1
        have hrest : ∀ (a' : Act) (w' : World) (G' : Gh) (A' : AS), Rel F G' A' a'.tmps cst w' → a'.defers = a.defers → UntH G hid' w G' w' → evD tt hd kb ops is hid A' K = some r →
            Held T (Agr (· ∈ hid) G0 w0) (listed.setIfInBounds i true) w' ∧ wpAnyL P .any ops (Qh ops Q) T (Agr (· ∈ hid) G0 w0) is.length (listed.setIfInBounds i true) a' w' := by
          intro a' w' G' A' hR hd' hu hk
          obtain ⟨h1, h2⟩ := hho a' w' G' A' hR hd' hu hk
          refine ⟨h1, evD_sound htt hh hs hkb is hc hk hK ⟨rfl, fun _ _ => rfl, S.nodup, fun j hj => (by cases hj), fun j hj => (by rw [hpe] at hj; cases hj), (by rw [hpe]), hR, fun hT => h2.resolve_right fun h => h hT, hd'⟩ fun e => by cases e⟩
        refine ⟨fun e => (by rw [e] at hr; cases hr), fun j hj => ?_⟩
        rw [hr, List.mem_singleton] at hj
        subst hj
        unfold wpOp
        rw [ho]
        simp only
        rcases guarded_cases S.rel hgd with ⟨hw, A1, R1, h1⟩ | ⟨hw, A1, R1, h1⟩
        · rw [if_pos hw]
          refine .inl (evOp_sound htt hh R1 hkb hid' o h1 ?_)
          intro ex A' G' a' w' R' hd' hk
          cases ex with
          | normal => exact fun hu => hrest a' w' G' A' R' hd' hu.1 hk
          | exit id => exact hK _ A' G' a' w' R' hd' hk
          | ret => exact hK _ A' G' a' w' R' hd' hk
          | panic v => exact fun u hu => Qh.post hK R' hd' hk u hu
        · rw [if_neg (by simp [hw])]
          exact hrest _ w G A1 R1 (Act.put_defers' _ _ _) (.refl _ _ _) h1
      match m, hc, h with
      | 0, hc, h =>
        simp only [chkD, Bool.and_eq_true] at hc
        obtain ⟨⟨⟨hq, hrd⟩, hpe⟩, hc⟩ := hc
        have hrd' : isRead tt o.op = false := by simpa [readOk, ho] using hrd
        rcases guarded_cases S.rel h with ⟨hw, A1, R1, h1⟩ | ⟨hw, A1, R1, h1⟩
        · split at h1
          · rename_i chk v hv
            cases chk with
            | false => cases h1
            | true =>
              simp only [cond_true, AS.putK_eq] at h1
              obtain ⟨u, hu, hr⟩ := evP_all (H := fun _ => True) htt (fun x => R1.opd x) R1.ob o hv rfl fun _ _ _ _ _ _ => trivial
              refine quiet hid rfl hq (by simpa using hpe) (fun _ h => h) S.hold u (.inl ⟨hw, fun w' _ => hu w' fun e => by rw [hrd'] at e; cases e⟩) _ (R1.puts hr o.dst) fun n' S' => ?_
              exact evD_sound htt hh hs hkb is hc h1 (by rw [Act.put_defers']; exact hK) S' hph
          · cases h1
        · refine quiet hid rfl hq (by simpa using hpe) (fun _ h => h) S.hold undef (.inr ⟨hw, rfl⟩) _ R1 fun n' S' => ?_
          exact evD_sound htt hh hs hkb is hc h1 (by rw [Act.put_defers']; exact hK) S' hph
      | 1, hc, h =>
        simp only [chkD, Bool.and_eq_true] at hc
        obtain ⟨⟨⟨hq, rfl⟩, hpe⟩, hc⟩ := hc
        obtain ⟨rfl, rfl⟩ := hph rfl
        rcases guarded_cases S.rel h with ⟨hw, A1, R1, h1⟩ | ⟨hw, A1, R1, h1⟩
        · split at h1
          · rename_i chk v hv
            cases chk with
            | false => cases h1
            | true =>
              simp only [cond_true, AS.putK_eq] at h1
              obtain ⟨u, hu, hr⟩ := evP_all (H := (· ∈ loadKey A1 o.op ++ hid)) htt (fun x => R1.opd x) R1.ob o hv rfl fun t x k j e1 e2 => by
                rw [e1]; simp only [loadKey, e2]; simp
              refine quiet (loadKey A1 o.op ++ hid) rfl hq (by simpa using hpe) (fun w' h => ⟨h.1, fun key b hk hb => h.2 key b (List.mem_append_right _ hk) hb⟩) (fun _ => ⟨fun _ _ h => h, fun _ _ _ h => h, Agr.refl _ _ _⟩) u (.inl ⟨hw, fun w' h' => hu w' fun _ => h'⟩) _ (R1.puts hr o.dst) fun n' S' => ?_
              exact evD_sound htt hh hs hkb is hc h1 (by rw [Act.put_defers']; exact hK) S' fun _ => ⟨rfl, rfl⟩
          · cases h1
        · refine quiet hid rfl hq (by simpa using hpe) (fun _ h => h) S.hold undef (.inr ⟨hw, rfl⟩) _ R1 fun n' S' => ?_
          exact evD_sound htt hh hs hkb is hc h1 (by rw [Act.put_defers']; exact hK) S' fun _ => ⟨rfl, rfl⟩
      | 2, hc, h =>
        simp only [chkD, Bool.and_eq_true, List.all_eq_true, Bool.not_eq_true', beq_eq_false_iff_ne, List.isEmpty_iff] at hc
        obtain ⟨⟨⟨hso, hiT⟩, hpe⟩, hc⟩ := hc
        refine sole hid hpe rfl hso (fun a' w' G' A' R' hd' hu hk => ?_) hc h
        have hold : (∀ j ∈ T, (listed.setIfInBounds i true).getD j false = false) → Hold G0 w0 hid G' w' := fun hT => (S.hold fun j hj => by rw [← hset j hj (hiT j hj)]; exact hT j hj).step hu
        exact ⟨fun hT => (hold hT).agr, (Classical.em _).imp hold id⟩
      | n0 + 3, hc, h =>
        simp only [chkD] at hc
        rename_i hx0
        clear hx0
        simp only [AS.force_eq] at h
        cases h4 : Nat.beq n0 1 with
        | true =>
          obtain rfl : n0 = 1 := Nat.eq_of_beq_eq_true h4
          rw [h4] at hc h
          simp only [cond_true, Bool.and_eq_true, Bool.not_eq_true', List.contains_eq_mem, decide_eq_false_iff_not] at hc
          obtain ⟨⟨⟨hip, hpe⟩, hso⟩, hc⟩ := hc
          have hpf : pfO ((i, 1 + 3) :: is) = i :: pfO is := rfl
          simp only [cond_true] at h
          cases hcl : (alOk tt ops ((i, 4) :: is) && (flD ops ((i, 4) :: is)).all (isClean kb (cleanD kb (flD ops ((i, 4) :: is)) A))) && !(hid.any fun k => (flD ops ((i, 4) :: is)).any fun d => k == kb + d) with
          | false => rw [hcl] at h; cases h
          | true =>
            rw [hcl] at h
            simp only [cond_true] at h
            have S1 : FlSt P tt ops T kb F cst a.defers (cleanD kb (flD ops ((i, 4) :: is)) A) hid G0 w0 l0 (pfO ((i, 1 + 3) :: is)) ((i, 1 + 3) :: is).length ud n listed G a w := { S with rel := S.rel.clean _ }
            generalize cleanD kb (flD ops ((i, 4) :: is)) A = A1 at h hcl S1
            clear S
            simp only [Bool.and_eq_true, Bool.not_eq_true', List.all_eq_true, List.any_eq_false, List.any_eq_true, beq_iff_eq, not_exists, not_and] at hcl
            cases hA : evA tt kb A1 o.dst o.op with
            | none => rw [hA] at h; cases h
            | some p =>
              obtain ⟨chk, A'⟩ := p
              rw [hA] at h
              cases chk with
              | false => cases h
              | true =>
                simp only [cond_true] at h
                have hpall := pendOk_spec hpe
                have key : ∀ (N : Nat) (ud : List Nat) (n : Nat) (listed : Array Bool) (G : Gh) (a' : Act) (w : World), ud.length = N →
                    FlSt P tt ops T kb F cst a.defers A1 hid G0 w0 l0 (i :: pfO is) (is.length + 1) ud n listed G a' w → wpAnyL P .any ops (Qh ops Q) T (Agr (· ∈ hid) G0 w0) n listed a' w := by
                  intro N
                  induction N using Nat.strongRecOn with
                  | ind N ih =>
                  intro ud n listed G a' w hN S
                  by_cases hiu : i ∈ ud
                  · have hlen := List.length_pos_of_mem hiu
                    obtain ⟨n', rfl⟩ : ∃ n', n = n' + 1 := ⟨n - 1, by have := S.cnt; simp only [List.length_cons] at this; omega⟩
                    have hir : i ∈ Region.ready .any ops listed := by
                      obtain ⟨o', t, d, ho', _, haf, _⟩ := floatOk_spec (hpall i (by simp)).1
                      rw [mem_ready]
                      refine ⟨by rw [getD_of_get (S.und i hiu).2]; exact (hpall i (by simp)).2, o', ho', fun e he => by rw [haf] at he; simp at he⟩
                    refine ⟨fun e => (by rw [e] at hir; cases hir), fun k hk => ?_⟩
                    by_cases hku : k ∈ ud
                    · refine wpOp_mono (fun a'' w'' ⟨G', S'⟩ => ⟨fun hT => (S'.hold hT).agr, ih _ ?_ _ _ _ _ _ _ rfl S'⟩) (S.fl htt hkb hpe (fun j hj o' d ho' hd' => hcl.1.2 d (flD_pfO ((i, 4) :: is) hj ho' hd')) (fun j hj => alOk_pfO ((i, 4) :: is) hcl.1.1 hj) (fun j hj o' d ho' hd' hin => hcl.2 _ hin d (flD_pfO ((i, 4) :: is) hj ho' hd') rfl) hku)
                      rw [List.length_erase_of_mem hku]; have := List.length_pos_of_mem hku; omega
                    · exfalso
                      have hkp : k ∉ i :: pfO is := fun h => not_ready (S.done k h hku).1 hk
                      have := ready_dn (X := pfO is) (l0 := l0) (fun j hj => pend_lt hpe (List.mem_cons_of_mem _ hj)) (fun j hj => ?_) (fun h => hkp (List.mem_cons_of_mem _ h)) (S.get k hkp) hk
                      · have := List.all_eq_true.1 hso k this
                        exact hkp (by rw [beq_iff_eq.1 this]; simp)
                      · by_cases hjp : j ∈ i :: pfO is
                        · rcases List.mem_cons.1 hjp with rfl | h
                          · rw [getD_of_get (S.und j hiu).2] at hj; exact .inr hj
                          · exact .inl h
                        · rw [getD_of_get (S.get j hjp)] at hj; exact .inr hj
                  · obtain ⟨hli, o', t, d, b, cur, ho', hop, hd', hmu, htm, hhp, hcz⟩ := S.done i (by simp) hiu
                    rw [ho] at ho'; cases ho'
                    obtain ⟨_, _, _, hzz, eA⟩ := run_allocZ htt hop hd' hA a' w
                    subst eA
                    refine evD_sound htt hh hs hkb is hc h hK ⟨by simp [S.size], fun k hk => ?_, S.nodup, fun j hj => ?_, fun j hj hju => S.done j (by simp [hj]) hju, ?_, S.rel.found hmu htm hhp hcz hzz, S.hold, S.dfs⟩ fun e => by cases e
                    · by_cases hki : k = i
                      · have hlt := pend_lt hpe (j := i) (by simp)
                        rw [hki, Array.getElem?_setIfInBounds_self, if_pos hlt]
                        rw [Array.getD_eq_getD_getElem?] at hli
                        cases hx : listed[i]? with
                        | none => rw [hx] at hli; cases hli
                        | some x => rw [hx] at hli; simp at hli; rw [hli]
                      · rw [Array.getElem?_setIfInBounds_ne (Ne.symm hki)]
                        exact S.get k (by simp [hki, hk])
                    · obtain ⟨h1, h2⟩ := S.und j hj
                      have hji : j ≠ i := by rintro rfl; exact hiu hj
                      refine ⟨(List.mem_cons.1 h1).resolve_left hji, ?_⟩
                      rw [Array.getElem?_setIfInBounds_ne (Ne.symm hji)]; exact h2
                    · have := S.cnt; simp only [List.length_cons] at this; omega
                exact key _ ud n listed G a w rfl S1
        | false =>
          rw [h4] at hc h
          simp only [cond_false] at hc h
          cases h6 : Nat.beq n0 3 with
          | true =>
            obtain rfl : n0 = 3 := Nat.eq_of_beq_eq_true h6
            rw [h6] at hc h
            simp only [cond_true, Bool.and_eq_true, Bool.not_eq_true', List.contains_eq_mem, decide_eq_false_iff_not, List.all_eq_true, beq_eq_false_iff_ne] at hc
            obtain ⟨⟨⟨hso, hiT⟩, hip, hpe⟩, hc⟩ := hc
            have hpf : pfO ((i, 3 + 3) :: is) = pfO is := rfl
            simp only [cond_true] at h
            cases hcl : (alOk tt ops is && (flD ops is).all (isClean kb (cleanD kb (flD ops is) A))) && !(hid.any fun k => (flD ops is).any fun d => k == kb + d) with
            | false => rw [hcl] at h; cases h
            | true =>
              rw [hcl] at h
              simp only [cond_true] at h
              have S1 : FlSt P tt ops T kb F cst a.defers (cleanD kb (flD ops is) A) hid G0 w0 l0 (pfO ((i, 3 + 3) :: is)) ((i, 3 + 3) :: is).length ud n listed G a w := { S with rel := S.rel.clean _ }
              generalize cleanD kb (flD ops is) A = A1 at h hcl S1
              clear S
              simp only [Bool.and_eq_true, Bool.not_eq_true', List.all_eq_true, List.any_eq_false, List.any_eq_true, beq_iff_eq, not_exists, not_and] at hcl
              have hpall := pendOk_spec hpe
              simp only [soleF, Bool.and_eq_true, List.contains_eq_mem, decide_eq_true_eq, List.all_eq_true, beq_iff_eq] at hso
              have key : ∀ (N : Nat) (ud : List Nat) (n : Nat) (listed : Array Bool) (G : Gh) (a' : Act) (w : World), ud.length = N →
                  FlSt P tt ops T kb F cst a.defers A1 hid G0 w0 l0 (pfO is) (is.length + 1) ud n listed G a' w → wpAnyL P .any ops (Qh ops Q) T (Agr (· ∈ hid) G0 w0) n listed a' w := by
                intro N
                induction N using Nat.strongRecOn with
                | ind N ih =>
                intro ud n listed G a' w hN S
                obtain ⟨n', rfl⟩ : ∃ n', n = n' + 1 := ⟨n - 1, by have := S.cnt; omega⟩
                have hir : i ∈ Region.ready .any ops listed := ready_up hpe S.get hip hso.1
                refine ⟨fun e => (by rw [e] at hir; cases hir), fun k hk => ?_⟩
                by_cases hku : k ∈ ud
                · refine wpOp_mono (fun a'' w'' ⟨G', S'⟩ => ⟨fun hT => (S'.hold hT).agr, ih _ ?_ _ _ _ _ _ _ rfl S'⟩) (S.fl htt hkb hpe (fun j hj o' d ho' hd' => hcl.1.2 d (flD_pfO is hj ho' hd')) (fun j hj => alOk_pfO is hcl.1.1 hj) (fun j hj o' d ho' hd' hin => hcl.2 _ hin d (flD_pfO is hj ho' hd') rfl) hku)
                  rw [List.length_erase_of_mem hku]; have := List.length_pos_of_mem hku; omega
                · have hkp : k ∉ pfO is := fun h => not_ready (S.done k h hku).1 hk
                  have hki := ready_dn (X := pfO is) (l0 := l0) (fun j hj => pend_lt hpe hj) (fun j hj => by
                    by_cases hjp : j ∈ pfO is
                    · exact .inl hjp
                    · rw [getD_of_get (S.get j hjp)] at hj; exact .inr hj) hkp (S.get k hkp) hk
                  obtain rfl := hso.2 k hki
                  have hset' : ∀ j ∈ T, j ≠ k → (listed.setIfInBounds k true).getD j false = listed.getD j false := fun j _ hne => getD_set_ne false (Ne.symm hne)
                  have hrest : ∀ (u : Value) (w' : World) (G' : Gh) (A' : AS), Rel F G' A' (a'.put o.dst u).tmps cst w' → UntH G ((flD ops is).map (kb + ·) ++ hid) w G' w' → evD tt hd kb ops is hid A' K = some r →
                      Held T (Agr (· ∈ hid) G0 w0) (listed.setIfInBounds k true) w' ∧ wpAnyL P .any ops (Qh ops Q) T (Agr (· ∈ hid) G0 w0) n' (listed.setIfInBounds k true) (a'.put o.dst u) w' := by
                    intro u w' G' A' hR hu hk'
                    have hold : (∀ j ∈ T, listed.getD j false = false) → Hold G0 w0 hid G' w' := fun hT => (S.hold hT).step ⟨hu.1, fun key hkey => hu.2 key (List.mem_append_right _ hkey)⟩
                    refine ⟨fun hT => (hold fun j hj => by rw [← hset' j hj (hiT j hj)]; exact hT j hj).agr, ?_⟩
                    refine evD_sound htt hh hs hkb is hc hk' hK (S.next ho hip hpe (fun j hj o' d ho' hd' => List.mem_append_left _ (List.mem_map_of_mem (flD_pfO is hj ho' hd'))) hu hR hold) fun e => by cases e
                  unfold wpOp
                  rw [ho]
                  simp only
                  rcases guarded_cases S.rel h with ⟨hw, A2, R2, h2⟩ | ⟨hw, A2, R2, h2⟩
                  · rw [if_pos hw]
                    refine .inl (evOp_sound htt hh R2 hkb _ o h2 ?_)
                    intro ex A' G' a'' w' R' hd' hk'
                    cases ex with
                    | normal =>
                      rintro ⟨hu, u, rfl⟩
                      exact hrest u w' G' A' R' hu hk'
                    | exit id => exact hK _ A' G' a'' w' R' (hd'.trans S.dfs) hk'
                    | ret => exact hK _ A' G' a'' w' R' (hd'.trans S.dfs) hk'
                    | panic v => exact fun u hu => Qh.post hK R' (hd'.trans S.dfs) hk' u hu
                  · rw [if_neg (by simp [hw])]
                    exact hrest undef w G A2 R2 (.refl _ _ _) h2
              exact key _ ud n listed G a w rfl S1
          | false =>
            rw [h6] at hc h
            simp only [cond_false, Bool.and_eq_true, List.any_eq_true, beq_iff_eq, exists_eq_right, decide_eq_true_eq, List.isEmpty_iff] at hc h
            obtain ⟨⟨⟨hso, hiT, hil⟩, hpe⟩, hc⟩ := hc
            have hpf : pfO ((i, n0 + 3) :: is) = pfO is := by
              have : Nat.beq (n0 + 3) 4 = Nat.beq n0 1 := rfl
              rw [pfO, this, h4]; rfl
            have hlsz : i < listed.size := by rw [S.size]; exact hil
            have hno : ¬ ∀ j ∈ T, (listed.setIfInBounds i true).getD j false = false := fun hT => by
              have := hT i hiT
              simp [hlsz] at this
            exact sole [] hpe hpf hso (fun a' w' G' A' R' hd' hu hk => ⟨fun hT => absurd hT hno, .inr hno⟩) hc h
def quietOp (tt : TT) : Op → Bool
  | .move _ | .nilCheck _ | .binOp .. | .unOp .. | .fieldAddr .. | .field .. | .indexAddr .. | .index .. | .slice .. | .load .. | .extract .. | .build .. | .makeInterface .. | .makeFunc .. => true
  | .convert _ d _ => match (tt.at d).d with | .sl _ => false | _ => true
  | .call c => match c.callee with | .builtin .len => true | .builtin .min => true | .builtin .max => true | _ => false
  | _ => false
def greedyD (tt : TT) (ops : Array Oper) (t0 : Nat) : Nat → Bool → Array Bool → List (Nat × Nat)
  | 0, _, _ => []
  | n + 1, ph, listed =>
    let rd := Region.ready .any ops listed
    match rd.find? fun i => Nat.blt i t0 && (match ops[i]? with | some o => quietOp tt o.op && (ph || !isRead tt o.op) | none => false) with
    | some i => (i, bif readOk tt ops i then 0 else 1) :: greedyD tt ops t0 n ph (listed.setIfInBounds i true)
    | none => match rd with
      | i :: _ => (i, bif Nat.blt i t0 then 2 else 3) :: greedyD tt ops t0 n false (listed.setIfInBounds i true)
      | [] => []
def greedyF (tt : TT) (ops : Array Oper) (t0 : Nat) (fl : List Nat) : Nat → Bool → Array Bool → List (Nat × Nat)
  | 0, _, _ => []
  | n + 1, ph, listed =>
    let rd := (Region.ready .any ops listed).filter fun i => !fl.contains i
    match rd.find? fun i => Nat.blt i t0 && (match ops[i]? with | some o => quietOp tt o.op && (ph || !isRead tt o.op) | none => false) with
    | some i => (i, bif readOk tt ops i then 0 else 1) :: greedyF tt ops t0 fl n ph (listed.setIfInBounds i true)
    | none => match rd with
      | i :: _ => (i, bif Nat.blt i t0 then (bif fl.all fun j => listed.getD j false then 2 else 6) else 3) :: greedyF tt ops t0 fl n false (listed.setIfInBounds i true)
      | [] => match fl.find? fun j => !listed.getD j true with
        | some j => (j, 4) :: greedyF tt ops t0 fl n false (listed.setIfInBounds j true)
        | none => []
def tailD (ops : Array Oper) : Nat → Nat
  | 0 => 0
  | t + 1 => bif (List.range t).all fun i => waitsOn ops t i then tailD ops t else t + 1
def orderIs (tt : TT) (ops : Array Oper) (t0 : Nat) (is : List (Nat × Nat)) : Option (List (Nat × Nat)) :=
  bif Region.noSelect ops && (is.length == ops.size && (nodupB (pfO is) && chkD tt ops ((List.range (ops.size - t0)).map (t0 + ·)) true (Array.replicate ops.size false) is)) then some is else none
def orderAt (tt : TT) (t0 : Nat) : Dr := fun ops =>
  match orderIs tt ops t0 (greedyD tt ops t0 ops.size true (Array.replicate ops.size false)) with
  | some is => some is
  | none => orderIs tt ops t0 (greedyF tt ops t0 ((List.range ops.size).filter (floatOk ops)) ops.size true (Array.replicate ops.size false))
def orderD (tt : TT) : Dr := fun ops => orderAt tt (tailD ops ops.size) ops
theorem nodupB_nodup : ∀ l : List Nat, nodupB l = true → l.Nodup
  | [], _ => List.nodup_nil
  | x :: xs, h => by
    simp only [nodupB, Bool.and_eq_true, Bool.not_eq_true', List.any_eq_false, beq_iff_eq] at h
    exact List.nodup_cons.2 ⟨fun hx => h.1 x hx rfl, nodupB_nodup xs h.2⟩
theorem orderIs_ok (htt : TTok P tt) {hd : Hd} (hh : HdOk P hd) {R : Type} {F : Fra} {cst : List (Array Value)} {kb : Nat} {ops : Array Oper} {is' is : List (Nat × Nat)} {r : R} {Q : Exit → Act → World → Prop} {G : Gh} {A : AS} {a : Act} {w : World} {K : Ex → AS → Option R}
    (hkb : ∀ d, F.mu0 (kb + d) = none) {t0 : Nat} (ho : orderIs tt ops t0 is' = some is) (h : evD tt hd kb ops is [] A K = some r) (Rl : Rel F G A a.tmps cst w) (hK : Post F cst a.defers r K Q) :
    wpAny P .any ops Q ops.size (Array.replicate ops.size false) a { w with drawn := w.drawn + 1 } := by
  unfold orderIs at ho
  cases hc : Region.noSelect ops && (is'.length == ops.size && (nodupB (pfO is') && chkD tt ops ((List.range (ops.size - t0)).map (t0 + ·)) true (Array.replicate ops.size false) is')) with
  | false => rw [hc] at ho; cases ho
  | true =>
    rw [hc] at ho
    simp only [cond_true, Option.some.injEq] at ho
    subst ho
    simp only [Bool.and_eq_true, beq_iff_eq] at hc
    obtain ⟨hs, hl, hnd, hc⟩ := hc
    have Rl' : Rel F G A a.tmps cst { w with drawn := w.drawn + 1 } := Rl.drew
    have := evD_sound (T := (List.range (ops.size - t0)).map (t0 + ·)) (G0 := G) (w0 := { w with drawn := w.drawn + 1 }) (ud := pfO is') (n := is'.length) (listed := Array.replicate ops.size false) htt hh hs hkb is' hc h hK
      ⟨rfl, fun _ _ => rfl, nodupB_nodup _ hnd, fun j hj => ⟨hj, rfl⟩, fun j hj h => absurd hj h, rfl, Rl', fun _ => ⟨fun _ _ h => h, fun _ _ _ h => h, Agr.refl _ _ _⟩, rfl⟩ fun _ => ⟨rfl, rfl⟩
    rw [hl] at this
    exact wpAny_monoQ (fun e a w => Qh.of) _ (wpAnyL.any _ this)
theorem orderAt_ok (htt : TTok P tt) {hd : Hd} (hh : HdOk P hd) {R : Type} {F : Fra} {cst : List (Array Value)} {kb : Nat} {ops : Array Oper} {is : List (Nat × Nat)} {r : R} {Q : Exit → Act → World → Prop} {G : Gh} {A : AS} {a : Act} {w : World} {K : Ex → AS → Option R}
    (hkb : ∀ d, F.mu0 (kb + d) = none) {t0 : Nat} (ho : orderAt tt t0 ops = some is) (h : evD tt hd kb ops is [] A K = some r) (Rl : Rel F G A a.tmps cst w) (hK : Post F cst a.defers r K Q) :
    wpAny P .any ops Q ops.size (Array.replicate ops.size false) a { w with drawn := w.drawn + 1 } := by
  unfold orderAt at ho
  split at ho
  · rename_i is1 h1
    cases ho
    exact orderIs_ok htt hh hkb h1 h Rl hK
  · exact orderIs_ok htt hh hkb ho h Rl hK
theorem orderD_ok (htt : TTok P tt) : DrawOk P tt (orderD tt) := by
  intro hd hh R F cst kb ops is r Q G A a w K hkb ho h Rl hK
  exact orderAt_ok htt hh hkb ho h Rl hK
end
end Go.Proofs.YtjpeefegeobgfaaGreat.Sym
namespace Go.Proofs.YtjpeefegeobgfaaGreat.Sym
open Go
set_option linter.unusedSimpArgs false
set_option linter.unusedVariables false
def tyFs (f : Nat → Option Ty) : List Field → Option Ty
  | [] => some .unit
  | x :: xs => match f x.type with
    | some a => match tyFs f xs with
      | some b => some (.prod a b)
      | none => none
    | none => none
def selfOf (P : Program) (t : Nat) (fs : List Field) : Option Nat := match fs.getLast? with
  | some x => match P.underlying x.type with
    | some (.slice e) => bif Nat.beq e t then some e else none
    | _ => none
  | none => none
def tyOf (P : Program) : Nat → Nat → Option Ty
  | 0, _ => none
  | n + 1, t => match P.underlying t with
    | some .bool => some .bool
    | some (.int k) => some (.int k)
    | some .string => some .str
    | some (.slice e) => match tyOf P n e with
      | some t => some (.sl e t)
      | none => none
    | some (.struct fs) => match selfOf P t fs.toList with
      | some e => match tyFs (tyOf P n) fs.toList.dropLast with
        | some a => some (.tree a e)
        | none => none
      | none => tyFs (tyOf P n) fs.toList
    | _ => none
def eqbOf (P : Program) (t : Nat) : Bool := !P.stoodInHeld t && (!P.eqGuardType P.depth t && match P.underlying t with
  | some (.struct F) => F.toList.all fun f => f.name != "_"
  | _ => true)
theorem eqbOf_ok {P : Program} {t : Nat} (h : eqbOf P t = true) : P.stoodInHeld t = false ∧ P.eqGuardType P.depth t = false ∧ ∀ F, P.underlying t = some (.struct F) → ∀ f ∈ F.toList, f.name ≠ "_" := by
  unfold eqbOf at h
  simp only [Bool.and_eq_true, Bool.not_eq_true'] at h
  refine ⟨h.1, h.2.1, fun F hF f hf => ?_⟩
  have h2 := h.2.2
  rw [hF] at h2
  simp only [List.all_eq_true, bne_iff_ne] at h2
  exact h2 f hf
def tiOf (P : Program) (t : Nat) : TI := match P.info? t with
  | some i => match P.underlying t with
    | some d => match i.zero with
      | some z => bif vAgg z == isSt (dsOf d) then ⟨dsOf d, tyOf P 8 t, i.size, i.bytes, z.cells.toList, eqbOf P t⟩ else .none
      | none => .none
    | none => .none
  | none => .none
def ttOf (P : Program) (n : Nat) : TT := (List.range n).map (tiOf P)
theorem ttOf_ok (P : Program) (n : Nat) : TTok P (ttOf P n) := by
  intro t ht
  have e : (ttOf P n).at t = if t < n then tiOf P t else .none := by
    unfold ttOf TT.at
    rw [List.getD_eq_getElem?_getD, List.getElem?_map]
    by_cases h : t < n
    · rw [List.getElem?_range h, if_pos h]; rfl
    · rw [List.getElem?_eq_none (by simp; omega), if_neg h]; rfl
  rw [e] at ht ⊢
  by_cases h : t < n
  · rw [if_pos h] at ht ⊢
    unfold tiOf at ht ⊢
    split
    · rename_i i hi
      rw [hi] at ht
      simp only at ht
      split
      · rename_i d hd
        rw [hd] at ht
        simp only at ht
        split
        · rename_i z hz
          rw [hz] at ht
          simp only at ht
          cases hb : vAgg z == isSt (dsOf d) with
          | false => rw [hb] at ht; exact absurd rfl ht
          | true => exact ⟨⟨d, hd, rfl⟩, ⟨i, z, hi, rfl, rfl, hz, rfl, by simpa using hb⟩, fun h => eqbOf_ok h⟩
        · rename_i hz; rw [hz] at ht; exact absurd rfl ht
      · rename_i hd; rw [hd] at ht; exact absurd rfl ht
    · rename_i hi; rw [hi] at ht; exact absurd rfl ht
  · rw [if_neg h] at ht; exact absurd rfl ht
abbrev Hc := (R : Type) → List V → Nat → AS → (Oc → AS → Option R) → Option R
def hcAt : List (Nat × Hc) → Nat → Option Hc
  | [], _ => none
  | (g, h) :: l, f => bif Nat.beq g f then some h else hcAt l f
def hdT (l : List (Nat × Hc)) : Hd := fun R f args id A K => match hcAt l f with
  | some h => h R args id A K
  | none => none
def HcsOk (P : Program) : List (Nat × Hc) → Prop
  | [] => True
  | p :: l => HcOk P p.1 p.2 ∧ HcsOk P l
theorem HcsOk.nil {P : Program} : HcsOk P [] := trivial
theorem HcsOk.cons {P : Program} {f : Nat} {h : Hc} {l : List (Nat × Hc)} (a : HcOk P f h) (b : HcsOk P l) : HcsOk P ((f, h) :: l) := ⟨a, b⟩
theorem hcAt_ok {P : Program} : ∀ {l : List (Nat × Hc)} {f : Nat} {h : Hc}, HcsOk P l → hcAt l f = some h → HcOk P f h
  | [], _, _, _, e => by cases e
  | (g, h') :: l, f, h, hl, e => by
    simp only [hcAt] at e
    cases hb : Nat.beq g f with
    | true =>
      rw [hb] at e
      simp only [cond_true, Option.some.injEq] at e
      subst e
      have := Nat.eq_of_beq_eq_true hb
      subst this
      exact hl.1
    | false =>
      rw [hb] at e
      exact hcAt_ok hl.2 e
def orHd (sel : List V → AS → Bool) (h1 h2 : Hc) : Hc := fun R args id A K => bif sel args A then h1 R args id A K else h2 R args id A K
theorem or_sound {P : Program} {f : Nat} {sel : List V → AS → Bool} {h1 h2 : Hc} (a : HcOk P f h1) (b : HcOk P f h2) : HcOk P f (orHd sel h1 h2) := by
  intro R args id A K r F G ts cst w vals hid h Rl hv
  unfold orHd at h
  cases hs : sel args A with
  | true => rw [hs] at h; exact a R args id A K r F G ts cst w vals hid h Rl hv
  | false => rw [hs] at h; exact b R args id A K r F G ts cst w vals hid h Rl hv
def nilAt (A : AS) (k : Nat) : Bool := match A.ob.getD k Option.none with
  | some (.nilp :: _) => true
  | _ => false
def deadB (args : List V) (A : AS) : Bool := args.any fun v => match v with
  | .one (.ptr k _) => nilAt A k || (match A.ob.getD k Option.none with
    | some (.ptr k' _ :: _) => nilAt A k'
    | _ => false)
  | _ => false
theorem hdT_ok {P : Program} {l : List (Nat × Hc)} (hl : HcsOk P l) : HdOk P (hdT l) := by
  intro R f args id A K r F G ts cst w vals hid h Rl hv
  unfold hdT at h
  split at h
  · rename_i hc e
    exact hcAt_ok hl e R args id A K r F G ts cst w vals hid h Rl hv
  · cases h
inductive SC where
  | hol (t : Ty)
  | onl (e : Nat) (t : Ty) (own : Nat)
  | exl (e : Nat) (t : Ty) (i j : Nat)
  | ext (e : Nat) (t : Ty) (i j : Nat)
  | ptr (key off : Nat)
  | fnp (f : Nat) (q : Bool) (ks : List Nat)
  | nils | nilp | top | itr
@[reducible] def SC.den : SC → Type
  | .hol t => t.den
  | .onl _ t _ => List t.den
  | .exl _ t _ _ => List t.den
  | .ext _ t _ _ => Nat × List t.den
  | .itr => List Int × Int
  | _ => Unit
@[reducible] def SCs.den : List SC → Type
  | [] => Unit
  | .hol t :: ss => t.den × SCs.den ss
  | .onl _ t _ :: ss => List t.den × SCs.den ss
  | .exl _ t _ _ :: ss => List t.den × SCs.den ss
  | .ext _ t _ _ :: ss => (Nat × List t.den) × SCs.den ss
  | .ptr _ _ :: ss => SCs.den ss
  | .fnp _ _ _ :: ss => SCs.den ss
  | .nils :: ss => SCs.den ss
  | .nilp :: ss => SCs.den ss
  | .top :: ss => SCs.den ss
  | .itr :: ss => (List Int × Int) × SCs.den ss
def capK : List Cp → Option (List Nat)
  | [] => some []
  | .ptr k o :: cs => bif Nat.beq o 0 then (match capK cs with | some ks => some (k :: ks) | none => none) else none
  | _ => none
def SC.dec : (s : SC) → C → Option s.den
  | .hol t, c => castC t c
  | .onl e t own, .lst e' t' xs own' => if h : e = e' ∧ t' = t ∧ own = own' then some (h.2.1 ▸ xs) else none
  | .exl e t i j, .ex e' t' lo xs i' j' => bif !(Nat.beq j 0) && (Nat.beq i i' && (Nat.beq j j' || Nat.beq i' j')) then (bif Nat.beq lo 0 then (if h : e = e' ∧ t' = t then some (h.2 ▸ xs) else none) else none) else none
  | .ext e t i j, .ex e' t' lo xs i' j' => bif !(Nat.beq j 0) && (Nat.beq i i' && (Nat.beq j j' || Nat.beq i' j')) then (if h : e = e' ∧ t' = t then some (lo, h.2 ▸ xs) else none) else none
  | .ptr k o, .ptr k' o' => bif Nat.beq k k' && Nat.beq o o' then some () else none
  | .fnp f q ks, .fn f' q' cs => match capK cs with | some ks' => (if f = f' ∧ q = q' ∧ ks = ks' then some () else none) | none => none
  | .nils, .nils => some ()
  | .nilp, .nilp => some ()
  | .top, _ => some ()
  | _, _ => none
def SC.mk : (s : SC) → s.den → C
  | .hol (.int k), x => .int k x
  | .hol .bool, x => .bool x
  | .hol .str, x => .str x
  | .hol (.sl e t), x => .lst e t x 0
  | .hol _, _ => .top
  | .onl e t own, x => .lst e t x own
  | .exl e t i j, x => .ex e t 0 x i j
  | .ext e t i j, x => .ex e t x.1 x.2 i j
  | .ptr k o, _ => .ptr k o
  | .fnp f q ks, _ => .fn f q (ks.map (.ptr · 0))
  | .nils, _ => .nils
  | .nilp, _ => .nilp
  | .top, _ => .top
  | .itr, x => .itr x
def SCs.dec : (ss : List SC) → List C → Option (SCs.den ss)
  | [], [] => some ()
  | .hol t :: ss, c :: cs => match SC.dec (.hol t) c with | some x => (match SCs.dec ss cs with | some xs => some (x, xs) | none => none) | none => none
  | .onl e t own :: ss, c :: cs => match SC.dec (.onl e t own) c with | some x => (match SCs.dec ss cs with | some xs => some (x, xs) | none => none) | none => none
  | .exl e t i j :: ss, c :: cs => match SC.dec (.exl e t i j) c with | some x => (match SCs.dec ss cs with | some xs => some (x, xs) | none => none) | none => none
  | .ext e t i j :: ss, c :: cs => match SC.dec (.ext e t i j) c with | some x => (match SCs.dec ss cs with | some xs => some (x, xs) | none => none) | none => none
  | .ptr k o :: ss, c :: cs => match SC.dec (.ptr k o) c with | some _ => SCs.dec ss cs | none => none
  | .fnp f q ks :: ss, c :: cs => match SC.dec (.fnp f q ks) c with | some _ => SCs.dec ss cs | none => none
  | .nils :: ss, c :: cs => match SC.dec .nils c with | some _ => SCs.dec ss cs | none => none
  | .nilp :: ss, c :: cs => match SC.dec .nilp c with | some _ => SCs.dec ss cs | none => none
  | .top :: ss, _ :: cs => SCs.dec ss cs
  | _, _ => none
def SCs.mk : (ss : List SC) → SCs.den ss → List C
  | [], _ => []
  | .hol t :: ss, x => SC.mk (.hol t) x.1 :: SCs.mk ss x.2
  | .onl e t own :: ss, x => SC.mk (.onl e t own) x.1 :: SCs.mk ss x.2
  | .exl e t i j :: ss, x => SC.mk (.exl e t i j) x.1 :: SCs.mk ss x.2
  | .ext e t i j :: ss, x => SC.mk (.ext e t i j) x.1 :: SCs.mk ss x.2
  | .ptr k o :: ss, x => .ptr k o :: SCs.mk ss x
  | .fnp f q ks :: ss, x => .fn f q (ks.map (.ptr · 0)) :: SCs.mk ss x
  | .nils :: ss, x => .nils :: SCs.mk ss x
  | .nilp :: ss, x => .nilp :: SCs.mk ss x
  | .top :: ss, x => .top :: SCs.mk ss x
  | .itr :: ss, x => .itr x.1 :: SCs.mk ss x.2
def SC.wf : (s : SC) → s.den → Prop
  | .hol t, x => t.wf x
  | .onl _ t _, xs => xs.length ≤ maxLen ∧ ∀ x ∈ xs, t.wf x
  | .exl _ t _ _, xs => xs.length ≤ maxLen ∧ ∀ x ∈ xs, t.wf x
  | .ext _ t _ _, xs => xs.1 + xs.2.length ≤ maxLen ∧ ∀ x ∈ xs.2, t.wf x
  | _, _ => True
def SCs.wf : (ss : List SC) → SCs.den ss → Prop
  | [], _ => True
  | .hol t :: ss, x => t.wf x.1 ∧ SCs.wf ss x.2
  | .onl _ t _ :: ss, x => (x.1.length ≤ maxLen ∧ ∀ y ∈ x.1, t.wf y) ∧ SCs.wf ss x.2
  | .exl _ t _ _ :: ss, x => (x.1.length ≤ maxLen ∧ ∀ y ∈ x.1, t.wf y) ∧ SCs.wf ss x.2
  | .ext _ t _ _ :: ss, x => (x.1.1 + x.1.2.length ≤ maxLen ∧ ∀ y ∈ x.1.2, t.wf y) ∧ SCs.wf ss x.2
  | .ptr _ _ :: ss, x => SCs.wf ss x
  | .fnp _ _ _ :: ss, x => SCs.wf ss x
  | .nils :: ss, x => SCs.wf ss x
  | .nilp :: ss, x => SCs.wf ss x
  | .top :: ss, x => SCs.wf ss x
  | .itr :: ss, x => (byteR x.1.1 ∧ x.1.1.length ≤ maxLen ∧ 0 ≤ x.1.2) ∧ SCs.wf ss x.2
section
variable {G : Gh} {w : World}
theorem castC_one {t : Ty} {c : C} {x : t.den} {v : Value} (h : castC t c = some x) (hv : Rc G w c v) : Rc G w (SC.mk (.hol t) x) v := by
  have hcell := hv.cell
  have hr := castC_sound (G := G) (w := w) t c x v h hv
  have hs := toCs_sound (G := G) (w := w) t x [v] hr
  cases t <;> first | exact hs.1 | exact hcell
theorem exw {e : Nat} {t : Ty} {lo : Nat} {xs : List t.den} {i j i' j' : Nat} {v : Value} (hb : (!(Nat.beq j 0) && (Nat.beq i i' && (Nat.beq j j' || Nat.beq i' j'))) = true) (hv : Rc G w (.ex e t lo xs i' j') v) : Rc G w (.ex e t lo xs i j) v := by
  simp only [Bool.and_eq_true, Bool.not_eq_true', Bool.or_eq_true] at hb
  obtain ⟨h0, h1, h2⟩ := hb
  have h1 := Nat.eq_of_beq_eq_true h1
  subst h1
  have hj : j ≠ 0 := by rintro rfl; cases h0
  rcases hv with hv | ⟨b, cap, e0, ⟨n1, n2, ho⟩, hx⟩
  · exact .inl hv
  · refine .inr ⟨b, cap, e0, ⟨n1, hj, ?_⟩, hx⟩
    rcases h2 with h2 | h2
    · rw [Nat.eq_of_beq_eq_true h2]; exact ho
    · have h2 := Nat.eq_of_beq_eq_true h2
      subst h2
      rcases ho with ho | ho <;> exact .inl ho
theorem exwf {e : Nat} {t : Ty} {lo : Nat} {xs : List t.den} {i j : Nat} {v : Value} (hv : Rc G w (.ex e t lo xs i j) v) : lo + xs.length ≤ maxLen ∧ ∀ x ∈ xs, t.wf x := by
  rcases hv with ⟨rfl, rfl, _⟩ | ⟨b, cap, e0, _, cur, el, _, _, h2, h3, h4⟩
  · exact ⟨Nat.zero_le _, fun x hx => by simp at hx⟩
  · refine ⟨Nat.le_trans h2 h3, fun x hx => ?_⟩
    obtain ⟨k, hk⟩ := List.getElem?_of_mem hx
    obtain ⟨c, hc, _⟩ := h4 k x hk
    exact Rt.wf _ x c hc
theorem capK_eq : ∀ {cs : List Cp} {ks : List Nat}, capK cs = some ks → cs = ks.map (Cp.ptr · 0)
  | [], _, h => by cases h; rfl
  | .dat _ _ :: _, _, h => by cases h
  | .ptr k o :: cs, _, h => by
    simp only [capK] at h
    cases ho : Nat.beq o 0 with
    | false => rw [ho] at h; cases h
    | true =>
      rw [ho] at h
      simp only [cond_true] at h
      split at h
      · rename_i ks hk
        cases h
        rw [Nat.eq_of_beq_eq_true ho, capK_eq hk]; rfl
      · cases h
theorem SC.dec_sound : ∀ {s : SC} {c : C} {x : s.den} {v : Value}, s.dec c = some x → Rc G w c v → Rc G w (s.mk x) v ∧ s.wf x := by
  intro s c x v h hv
  cases s with
  | hol t => exact ⟨castC_one h hv, Rt.wf (w := w) t x [v] (castC_sound t c x v h hv)⟩
  | onl e t own =>
    cases c <;> simp only [SC.dec] at h <;> try cases h
    rename_i e' t' xs own'
    split at h
    · rename_i hh
      obtain ⟨rfl, rfl, rfl⟩ := hh
      cases h
      refine ⟨hv, ?_⟩
      obtain ⟨A, cap, _, h1, h2, hrow, _⟩ := hv
      refine ⟨Nat.le_trans h1 h2, fun y hy => ?_⟩
      obtain ⟨i, hi⟩ := List.getElem?_of_mem hy
      obtain ⟨b, o, c, _, hc, _⟩ := hrow.cellAt hi
      exact Rt.wf _ y c hc
    · cases h
  | exl e t i j =>
    cases c <;> simp only [SC.dec] at h <;> try cases h
    rename_i e' t' lo xs i' j'
    cases hb : !(Nat.beq j 0) && (Nat.beq i i' && (Nat.beq j j' || Nat.beq i' j')) with
    | false => rw [hb] at h; cases h
    | true =>
      rw [hb] at h
      simp only [cond_true] at h
      cases hl : Nat.beq lo 0 with
      | false => rw [hl] at h; cases h
      | true =>
        rw [hl] at h
        simp only [cond_true] at h
        have hl := Nat.eq_of_beq_eq_true hl
        subst hl
        split at h
        · rename_i hh
          obtain ⟨rfl, rfl⟩ := hh
          cases h
          exact ⟨exw hb hv, by have := exwf hv; rwa [Nat.zero_add] at this⟩
        · cases h
  | ext e t i j =>
    cases c <;> simp only [SC.dec] at h <;> try cases h
    rename_i e' t' lo xs i' j'
    cases hb : !(Nat.beq j 0) && (Nat.beq i i' && (Nat.beq j j' || Nat.beq i' j')) with
    | false => rw [hb] at h; cases h
    | true =>
      rw [hb] at h
      simp only [cond_true] at h
      split at h
      · rename_i hh
        obtain ⟨rfl, rfl⟩ := hh
        cases h
        exact ⟨exw hb hv, exwf hv⟩
      · cases h
  | ptr k o =>
    cases c <;> simp only [SC.dec] at h <;> try cases h
    rename_i k' o'
    cases hb : Nat.beq k k' && Nat.beq o o' with
    | false => rw [hb] at h; cases h
    | true =>
      simp only [Bool.and_eq_true] at hb
      have e1 := Nat.eq_of_beq_eq_true hb.1
      have e2 := Nat.eq_of_beq_eq_true hb.2
      subst e1; subst e2
      exact ⟨hv, trivial⟩
  | fnp f q ks =>
    cases c <;> simp only [SC.dec] at h <;> try cases h
    rename_i f' q' cs
    split at h
    · rename_i ks' hk
      split at h
      · rename_i hh
        obtain ⟨rfl, rfl, rfl⟩ := hh
        rw [capK_eq hk] at hv
        exact ⟨hv, trivial⟩
      · cases h
    · cases h
  | nils => cases c <;> simp only [SC.dec] at h <;> first | exact ⟨hv, trivial⟩ | cases h
  | nilp => cases c <;> simp only [SC.dec] at h <;> first | exact ⟨hv, trivial⟩ | cases h
  | top => exact ⟨hv.cell, trivial⟩
  | itr => cases c <;> simp [SC.dec] at h
theorem SCs.dec_sound : ∀ {ss : List SC} {cs : List C} {x : SCs.den ss} {vs : List Value}, SCs.dec ss cs = some x → All2 (Rc G w) cs vs → All2 (Rc G w) (SCs.mk ss x) vs ∧ SCs.wf ss x
  | [], [], _, vs, _, hv => ⟨hv, trivial⟩
  | [], _ :: _, _, _, h, _ => by simp [SCs.dec] at h
  | s :: ss, [], _, _, h, _ => by cases s <;> simp [SCs.dec] at h
  | s :: ss, c :: cs, x, [], h, hv => hv.elim
  | s :: ss, c :: cs, x, v :: vs, h, hv => by
    cases s <;> simp only [SCs.dec] at h
    case hol t =>
      split at h
      · rename_i y hy
        split at h
        · rename_i ys hys
          cases h
          obtain ⟨h1, h2⟩ := SC.dec_sound hy hv.1
          obtain ⟨h3, h4⟩ := SCs.dec_sound hys hv.2
          exact ⟨⟨h1, h3⟩, h2, h4⟩
        · cases h
      · cases h
    case onl e t own =>
      split at h
      · rename_i y hy
        split at h
        · rename_i ys hys
          cases h
          obtain ⟨h1, h2⟩ := SC.dec_sound hy hv.1
          obtain ⟨h3, h4⟩ := SCs.dec_sound hys hv.2
          exact ⟨⟨h1, h3⟩, h2, h4⟩
        · cases h
      · cases h
    case exl e t i j =>
      split at h
      · rename_i y hy
        split at h
        · rename_i ys hys
          cases h
          obtain ⟨h1, h2⟩ := SC.dec_sound hy hv.1
          obtain ⟨h3, h4⟩ := SCs.dec_sound hys hv.2
          exact ⟨⟨h1, h3⟩, h2, h4⟩
        · cases h
      · cases h
    case ext e t i j =>
      split at h
      · rename_i y hy
        split at h
        · rename_i ys hys
          cases h
          obtain ⟨h1, h2⟩ := SC.dec_sound hy hv.1
          obtain ⟨h3, h4⟩ := SCs.dec_sound hys hv.2
          exact ⟨⟨h1, h3⟩, h2, h4⟩
        · cases h
      · cases h
    case top =>
      obtain ⟨h3, h4⟩ := SCs.dec_sound h hv.2
      exact ⟨⟨hv.1.cell, h3⟩, h4⟩
    case itr => cases h
    all_goals
      split at h
      · rename_i y hy
        obtain ⟨h1, _⟩ := SC.dec_sound hy hv.1
        obtain ⟨h3, h4⟩ := SCs.dec_sound h hv.2
        exact ⟨⟨h1, h3⟩, h4⟩
      · cases h
end
inductive SV where
  | one (s : SC) | agg (ss : List SC) | any
def SV.cs : SV → List SC
  | .one s => [s]
  | .agg ss => ss
  | .any => []
@[reducible] def DenT : List SV → Type
  | [] => Unit
  | .any :: vs => DenT vs
  | .one (.ptr _ _) :: vs => DenT vs
  | .one (.fnp _ _ _) :: vs => DenT vs
  | .one .nils :: vs => DenT vs
  | .one .nilp :: vs => DenT vs
  | .one .top :: vs => DenT vs
  | .one .itr :: vs => DenT vs
  | .one (.hol t) :: vs => t.den × DenT vs
  | .one (.onl _ t _) :: vs => List t.den × DenT vs
  | .one (.exl _ t _ _) :: vs => List t.den × DenT vs
  | .one (.ext _ t _ _) :: vs => (Nat × List t.den) × DenT vs
  | .agg ss :: vs => SCs.den ss × DenT vs
def decT : (vs : List SV) → List V → Option (DenT vs)
  | [], [] => some ()
  | .any :: vs, _ :: us => decT vs us
  | .one (.ptr k o) :: vs, .one c :: us => match SC.dec (.ptr k o) c with | some _ => decT vs us | none => none
  | .one (.fnp f q ks) :: vs, .one c :: us => match SC.dec (.fnp f q ks) c with | some _ => decT vs us | none => none
  | .one .nils :: vs, .one c :: us => match SC.dec .nils c with | some _ => decT vs us | none => none
  | .one .nilp :: vs, .one c :: us => match SC.dec .nilp c with | some _ => decT vs us | none => none
  | .one .top :: vs, .one _ :: us => decT vs us
  | .one (.hol t) :: vs, .one c :: us => match SC.dec (.hol t) c with | some x => (match decT vs us with | some xs => some (x, xs) | none => none) | none => none
  | .one (.onl e t own) :: vs, .one c :: us => match SC.dec (.onl e t own) c with | some x => (match decT vs us with | some xs => some (x, xs) | none => none) | none => none
  | .one (.exl e t i j) :: vs, .one c :: us => match SC.dec (.exl e t i j) c with | some x => (match decT vs us with | some xs => some (x, xs) | none => none) | none => none
  | .one (.ext e t i j) :: vs, .one c :: us => match SC.dec (.ext e t i j) c with | some x => (match decT vs us with | some xs => some (x, xs) | none => none) | none => none
  | .agg ss :: vs, .agg cs :: us => match SCs.dec ss cs with | some x => (match decT vs us with | some xs => some (x, xs) | none => none) | none => none
  | _, _ => none
def mkT : (vs : List SV) → DenT vs → List V
  | [], _ => []
  | .any :: vs, x => .any :: mkT vs x
  | .one (.ptr k o) :: vs, x => .one (.ptr k o) :: mkT vs x
  | .one (.fnp f q ks) :: vs, x => .one (.fn f q (ks.map (.ptr · 0))) :: mkT vs x
  | .one .nils :: vs, x => .one .nils :: mkT vs x
  | .one .nilp :: vs, x => .one .nilp :: mkT vs x
  | .one .top :: vs, x => .one .top :: mkT vs x
  | .one .itr :: vs, x => .any :: mkT vs x
  | .one (.hol t) :: vs, x => .one (SC.mk (.hol t) x.1) :: mkT vs x.2
  | .one (.onl e t own) :: vs, x => .one (SC.mk (.onl e t own) x.1) :: mkT vs x.2
  | .one (.exl e t i j) :: vs, x => .one (SC.mk (.exl e t i j) x.1) :: mkT vs x.2
  | .one (.ext e t i j) :: vs, x => .one (SC.mk (.ext e t i j) x.1) :: mkT vs x.2
  | .agg ss :: vs, x => .agg (SCs.mk ss x.1) :: mkT vs x.2
def wfT : (vs : List SV) → DenT vs → Prop
  | [], _ => True
  | .any :: vs, x => wfT vs x
  | .one (.ptr _ _) :: vs, x => wfT vs x
  | .one (.fnp _ _ _) :: vs, x => wfT vs x
  | .one .nils :: vs, x => wfT vs x
  | .one .nilp :: vs, x => wfT vs x
  | .one .top :: vs, x => wfT vs x
  | .one .itr :: vs, x => wfT vs x
  | .one (.hol t) :: vs, x => t.wf x.1 ∧ wfT vs x.2
  | .one (.onl _ t _) :: vs, x => (x.1.length ≤ maxLen ∧ ∀ y ∈ x.1, t.wf y) ∧ wfT vs x.2
  | .one (.exl _ t _ _) :: vs, x => (x.1.length ≤ maxLen ∧ ∀ y ∈ x.1, t.wf y) ∧ wfT vs x.2
  | .one (.ext _ t _ _) :: vs, x => (x.1.1 + x.1.2.length ≤ maxLen ∧ ∀ y ∈ x.1.2, t.wf y) ∧ wfT vs x.2
  | .agg ss :: vs, x => SCs.wf ss x.1 ∧ wfT vs x.2
theorem decT_sound {G : Gh} {w : World} : ∀ {vs : List SV} {us : List V} {x : DenT vs} {zs : List Value}, decT vs us = some x → All2 (Rv G w) us zs → All2 (Rv G w) (mkT vs x) zs ∧ wfT vs x
  | [], [], _, zs, _, hv => ⟨hv, trivial⟩
  | [], _ :: _, _, _, h, _ => by simp [decT] at h
  | v :: vs, [], _, _, h, _ => by
    cases v with
    | one s => cases s <;> simp [decT] at h
    | agg ss => simp [decT] at h
    | any => simp [decT] at h
  | v :: vs, u :: us, x, [], h, hv => hv.elim
  | v :: vs, u :: us, x, z :: zs, h, hv => by
    cases v with
    | any =>
      simp only [decT] at h
      obtain ⟨h3, h4⟩ := decT_sound h hv.2
      exact ⟨⟨trivial, h3⟩, h4⟩
    | agg ss =>
      cases u <;> simp only [decT] at h <;> try cases h
      rename_i cs
      split at h
      · rename_i y hy
        split at h
        · rename_i ys hys
          cases h
          obtain ⟨us', rfl, hu⟩ := hv.1
          obtain ⟨h1, h2⟩ := SCs.dec_sound hy hu
          obtain ⟨h3, h4⟩ := decT_sound hys hv.2
          exact ⟨⟨⟨us', rfl, h1⟩, h3⟩, h2, h4⟩
        · cases h
      · cases h
    | one s =>
      cases u with
      | one c =>
        cases s <;> simp only [decT] at h
        case hol t =>
          split at h
          · rename_i y hy
            split at h
            · rename_i ys hys
              cases h
              obtain ⟨h1, h2⟩ := SC.dec_sound hy hv.1
              obtain ⟨h3, h4⟩ := decT_sound hys hv.2
              exact ⟨⟨h1, h3⟩, h2, h4⟩
            · cases h
          · cases h
        case onl e t own =>
          split at h
          · rename_i y hy
            split at h
            · rename_i ys hys
              cases h
              obtain ⟨h1, h2⟩ := SC.dec_sound hy hv.1
              obtain ⟨h3, h4⟩ := decT_sound hys hv.2
              exact ⟨⟨h1, h3⟩, h2, h4⟩
            · cases h
          · cases h
        case exl e t i j =>
          split at h
          · rename_i y hy
            split at h
            · rename_i ys hys
              cases h
              obtain ⟨h1, h2⟩ := SC.dec_sound hy hv.1
              obtain ⟨h3, h4⟩ := decT_sound hys hv.2
              exact ⟨⟨h1, h3⟩, h2, h4⟩
            · cases h
          · cases h
        case ext e t i j =>
          split at h
          · rename_i y hy
            split at h
            · rename_i ys hys
              cases h
              obtain ⟨h1, h2⟩ := SC.dec_sound hy hv.1
              obtain ⟨h3, h4⟩ := decT_sound hys hv.2
              exact ⟨⟨h1, h3⟩, h2, h4⟩
            · cases h
          · cases h
        case top =>
          obtain ⟨h3, h4⟩ := decT_sound h hv.2
          exact ⟨⟨Rc.cell hv.1, h3⟩, h4⟩
        case itr => cases h
        all_goals
          split at h
          · rename_i y hy
            obtain ⟨h1, _⟩ := SC.dec_sound hy hv.1
            obtain ⟨h3, h4⟩ := decT_sound h hv.2
            exact ⟨⟨h1, h3⟩, h4⟩
          · cases h
      | _ => cases s <;> simp [decT] at h
@[reducible] def DenB : List (Option (List SC)) → Type
  | [] => Unit
  | none :: os => DenB os
  | some ss :: os => SCs.den ss × DenB os
def decI : (ss : List SC) → List C → Option (SCs.den ss)
  | [.itr], [.itr x] => some (x, ())
  | _, _ => none
def decB : (os : List (Option (List SC))) → List (Option (List C)) → Option (DenB os)
  | [], _ => some ()
  | none :: os, _ :: bs => decB os bs
  | none :: os, [] => decB os []
  | some ss :: os, some cs :: bs => match (bif cs.any C.isItr then decI ss cs else SCs.dec ss cs) with | some x => (match decB os bs with | some xs => some (x, xs) | none => none) | none => none
  | _, _ => none
def mkB : (os : List (Option (List SC))) → DenB os → List (Option (List C))
  | [], _ => []
  | none :: os, x => none :: mkB os x
  | some ss :: os, x => some (SCs.mk ss x.1) :: mkB os x.2
def wfB : (os : List (Option (List SC))) → DenB os → Prop
  | [], _ => True
  | none :: os, x => wfB os x
  | some ss :: os, x => SCs.wf ss x.1 ∧ wfB os x.2
theorem decObj_sound {G : Gh} {w : World} {ss : List SC} {cs : List C} {y : SCs.den ss} (h : (bif cs.any C.isItr then decI ss cs else SCs.dec ss cs) = some y) (ho : ∃ o : Obj, ObjOk G w cs o) :
    SCs.wf ss y ∧ ∀ o, ObjOk G w cs o → ObjOk G w (SCs.mk ss y) o := by
  obtain ⟨o, ho⟩ := ho
  cases hn : cs.any C.isItr with
  | false =>
    rw [hn] at h
    obtain ⟨cur, el, _, hr⟩ := ho.cells hn
    refine ⟨(SCs.dec_sound h hr).2, fun o' ho' => ?_⟩
    obtain ⟨cur', el', e', hr'⟩ := ho'.cells hn
    exact .inl ⟨cur', el', e', (SCs.dec_sound h hr').1⟩
  | true =>
    rw [hn] at h
    simp only [cond_true] at h
    unfold decI at h
    split at h
    · rename_i x
      cases h
      refine ⟨?_, fun o' ho' => ho'⟩
      rcases ho with ⟨cur, el, _, hr⟩ | ⟨s, n, e2, rfl, hbr, hlen⟩
      · match hcl : cur.toList, hr with
        | [], hr => exact hr.elim
        | _ :: _, hr => exact hr.1.elim
      · simp only [List.cons.injEq, C.itr.injEq, and_true] at e2
        subst e2
        exact ⟨⟨hbr, hlen, Int.natCast_nonneg n⟩, trivial⟩
    · cases h
theorem decB_sound {G : Gh} {w : World} : ∀ {os : List (Option (List SC))} {bs : List (Option (List C))} {x : DenB os}, decB os bs = some x →
    (∀ (k : Nat) (cs : List C), bs[k]? = some (some cs) → ∃ o : Obj, ObjOk G w cs o) →
    wfB os x ∧ ∀ (k : Nat) (cs : List C), (mkB os x)[k]? = some (some cs) → ∃ cs0 : List C, bs[k]? = some (some cs0) ∧ ∀ o, ObjOk G w cs0 o → ObjOk G w cs o
  | [], _, _, _, _ => ⟨trivial, fun k cs h => by simp [mkB] at h⟩
  | none :: os, [], x, h, hb => by
    simp only [decB] at h
    obtain ⟨h1, h2⟩ := decB_sound h hb
    refine ⟨h1, fun k cs hk => ?_⟩
    cases k with
    | zero => simp [mkB] at hk
    | succ k => obtain ⟨cs0, h3, _⟩ := h2 k cs (by simpa [mkB] using hk); simp at h3
  | none :: os, b :: bs, x, h, hb => by
    simp only [decB] at h
    obtain ⟨h1, h2⟩ := decB_sound h fun k cs hk => hb (k + 1) cs (by simpa using hk)
    refine ⟨h1, fun k cs hk => ?_⟩
    cases k with
    | zero => simp [mkB] at hk
    | succ k => obtain ⟨cs0, h3, h4⟩ := h2 k cs (by simpa [mkB] using hk); exact ⟨cs0, by simpa using h3, h4⟩
  | some ss :: os, [], x, h, hb => by simp [decB] at h
  | some ss :: os, none :: bs, x, h, hb => by simp [decB] at h
  | some ss :: os, some cs :: bs, x, h, hb => by
    simp only [decB] at h
    split at h
    · rename_i y hy
      split at h
      · rename_i ys hys
        cases h
        obtain ⟨h1, h2⟩ := decB_sound hys fun k cs hk => hb (k + 1) cs (by simpa using hk)
        obtain ⟨h6, h7⟩ := decObj_sound hy (hb 0 cs rfl)
        refine ⟨⟨h6, h1⟩, fun k cs' hk => ?_⟩
        cases k with
        | zero =>
          simp only [mkB, List.getElem?_cons_zero, Option.some.injEq] at hk
          subst hk
          exact ⟨cs, rfl, h7⟩
        | succ k => obtain ⟨cs0, h3, h4⟩ := h2 k cs' (by simpa [mkB] using hk); exact ⟨cs0, by simpa using h3, h4⟩
      · cases h
    · cases h
structure Ls where
  tm : List SV
  ob : List (Option (List SC))
abbrev Ls.den (s : Ls) : Type := DenT s.tm × DenB s.ob
def Ls.mk' (s : Ls) (x : s.den) : AS := ⟨mkT s.tm x.1, [], mkB s.ob x.2⟩
def Ls.dec (s : Ls) (A : AS) : Option s.den := match A with
  | ⟨tm, [], ob⟩ => match decT s.tm tm with
    | some x => match decB s.ob ob with
      | some y => some (x, y)
      | none => none
    | none => none
  | _ => none
def Ls.wf (s : Ls) (x : s.den) : Prop := wfT s.tm x.1 ∧ wfB s.ob x.2
theorem Ls.dec_sound {s : Ls} {A : AS} {x : s.den} (h : s.dec A = some x) {F : Fra} {G : Gh} {ts : Array Value} {cst : List (Array Value)} {w : World} (R : Rel F G A ts cst w) : Rel F G (s.mk' x) ts cst w ∧ s.wf x := by
  obtain ⟨tm, stk, ob⟩ := A
  unfold Ls.dec at h
  split at h
  · rename_i tm' ob' e
    cases e
    split at h
    · rename_i y hy
      split at h
      · rename_i z hz
        cases h
        obtain ⟨h1, h2⟩ := decT_sound hy R.tm
        obtain ⟨h3, h4⟩ := decB_sound (G := G) (w := w) hz fun k cs hk => let ⟨b, o, _, _, hr⟩ := R.ob k cs hk; ⟨_, hr⟩
        refine ⟨⟨h1, R.stk, fun k cs hk => ?_, R.gh⟩, h2, h3⟩
        obtain ⟨cs0, h5, h6⟩ := h4 k cs hk
        obtain ⟨b, o, hm, hh, hr⟩ := R.ob k cs0 h5
        exact ⟨b, o, hm, hh, h6 _ hr⟩
      · cases h
    · cases h
  · cases h
inductive Lx where
  | exit (id : Nat) | ret | normal | panic (T : Nat) (t : Ty)
@[reducible] def Lx.den : Lx → Type
  | .panic _ t => t.den
  | _ => Unit
def Lx.ex : (e : Lx) → e.den → Ex
  | .exit id, _ => .exit id
  | .ret, _ => .ret
  | .normal, _ => .normal
  | .panic T t, x => .panic (.one (.ifc T t x))
def Lx.dec : (e : Lx) → Ex → Option e.den
  | .exit id, .exit id' => bif Nat.beq id id' then some () else none
  | .ret, .ret => some ()
  | .panic T t, .panic (.one (.ifc T' t' x)) => if h : T = T' ∧ t' = t then some (h.2 ▸ x) else none
  | _, _ => none
@[reducible] def DenX : List (Lx × Ls) → Type
  | [] => Empty
  | x :: xs => Out (x.1.den × x.2.den) (DenX xs)
def decX : (xs : List (Lx × Ls)) → Ex → AS → Option (DenX xs)
  | [], _, _ => none
  | x :: xs, e, A => match x.1.dec e with
    | some p => match x.2.dec A with
      | some d => some (.ret (p, d))
      | none => match decX xs e A with
        | some y => some (.pan y)
        | none => none
    | none => match decX xs e A with
      | some y => some (.pan y)
      | none => none
def mkX {R : Type} : (xs : List (Lx × Ls)) → DenX xs → (Ex → AS → Option R) → Option R
  | [], x, _ => nomatch x
  | x :: _, .ret d, K => K (x.1.ex d.1) (x.2.mk' d.2)
  | _ :: xs, .pan y, K => mkX xs y K
structure Lo where
  st : Ls
  xs : List (Lx × Ls)
def loHd (lo : Lo) (Fn : lo.st.den → Tr (DenX lo.xs)) : Lh := fun R A K => match lo.st.dec A with
  | some x => (Fn x).run fun y => mkX lo.xs y K
  | none => none
theorem decX_sound {R : Type} {F : Fra} {G : Gh} {A : AS} {a : Act} {cst : List (Array Value)} {w : World} (Rl : Rel F G A a.tmps cst w) {K : Ex → AS → Option R} {r : R} {Q : Exit → Act → World → Prop} {dfs : List Deferred} (hd : a.defers = dfs) (hK : Post F cst dfs r K Q) :
    ∀ {xs : List (Lx × Ls)} {e : Ex} {y : DenX xs}, decX xs e A = some y → mkX xs y K = some r →
      match e with
      | .normal => Q .normal a w
      | .exit id => Q (.exit id) a w
      | .ret => Q .ret a w
      | .panic v => ∀ u, Rv G w v u → Q (.panic [{ v := u, recovered := false }]) a w
  | [], e, y, h, _ => by simp [decX] at h
  | (l, s) :: xs, e, y, h, hm => by
    simp only [decX] at h
    have rest : ∀ {y' : DenX xs}, decX xs e A = some y' → mkX xs y' K = some r → _ := fun h1 h2 => decX_sound Rl hd hK h1 h2
    split at h
    · rename_i p hp
      split at h
      · rename_i d hdd
        cases h
        simp only [mkX] at hm
        have R' := (Ls.dec_sound hdd Rl).1
        cases l with
        | normal => cases e <;> simp [Lx.dec] at hp
        | ret =>
          cases e <;> simp only [Lx.dec] at hp <;> try cases hp
          exact hK .ret _ G a w R' hd hm
        | exit id =>
          cases e <;> simp only [Lx.dec] at hp <;> try cases hp
          rename_i id'
          cases hb : Nat.beq id id' with
          | false => rw [hb] at hp; cases hp
          | true =>
            have := Nat.eq_of_beq_eq_true hb
            subst this
            exact hK (.exit id) _ G a w R' hd hm
        | panic T t =>
          cases e with
          | panic v =>
            cases v with
            | one c =>
              cases c <;> simp only [Lx.dec] at hp <;> try cases hp
              rename_i T' t' x
              split at hp
              · rename_i hh
                obtain ⟨rfl, rfl⟩ := hh
                cases hp
                exact hK (.panic _) _ G a w R' hd hm
              · cases hp
            | _ => simp [Lx.dec] at hp
          | _ => simp [Lx.dec] at hp
      · split at h
        · rename_i y' hy'
          cases h
          exact rest hy' hm
        · cases h
    · split at h
      · rename_i y' hy'
        cases h
        exact rest hy' hm
      · cases h
theorem lo_sound {P : Program} {tt : TT} (htt : TTok P tt) (hm : P.follows .mixedOrders = true) {hd : Hd} (hh : HdOk P hd) {okDraw : Dr} (hdr : DrawOk P tt okDraw) {lp : Lp} {kb lr : Nat} {m : Nat} {b : Code} {x : List (Nat × Nat)}
    (hlp : ∀ e ∈ loopsOf lr b m x, ∀ h, lp (firstId e.2.1) = some h → LhOk P kb e.2.1 h) (lo : Lo) (Fn : lo.st.den → Tr (DenX lo.xs))
    (hF : ∀ d y, lo.st.wf d → (Fn d).val = some y → ∃ n, loopN m kb (fun A K => ev tt hd okDraw lp kb lr b m x A K) n (lo.st.mk' d) (decX lo.xs) = some y) : LhOk P kb b (loHd lo Fn) := by
  intro R F cst r Q G A a w K hkb h Rl hK
  unfold loHd at h
  split at h
  · rename_i d hdec
    obtain ⟨y, hy, h⟩ := Tr.run_val h
    obtain ⟨R1, hwf⟩ := Ls.dec_sound hdec Rl
    obtain ⟨n, hn⟩ := hF d y hwf hy
    refine loopN_sound htt hm hh hdr hkb hlp hn R1 ?_
    intro ex A' G' a' w' R' hd' hk
    have := decX_sound R' hd' hK hk h
    cases ex <;> exact this
  · cases h
abbrev Le := Nat × Code × List (Nat × Nat)
def leNo : Le := (0, .skip, [])
def fnCode (fn : Func) : Code := match fn.body with
  | some c => c
  | none => .skip
def tops (fn : Func) : List Le := loopsOf (lrOf fn) (fnCode fn) (lrOf fn) []
def subs (fn : Func) (e : Le) : List Le := loopsOf (lrOf fn) e.2.1 e.1 e.2.2
def topL (fn : Func) (j : Nat) : Le := (tops fn).getD j leNo
def subL (fn : Func) (e : Le) (j : Nat) : Le := (subs fn e).getD j leNo
def lpT : List (Nat × Lh) → Lp
  | [], _ => none
  | (g, h) :: l, f => bif Nat.beq g f then some h else lpT l f
def lpN (tt : TT) (hd : Hd) (dr : Dr) (lp : Lp) (kb : Nat) (fn : Func) (e : Le) {R : Type} (n : Nat) (A : AS) (K : Ex → AS → Option R) : Option R :=
  loopN e.1 kb (fun A K => ev tt hd dr lp kb (lrOf fn) e.2.1 e.1 e.2.2 A K) n A K
def LpsOk (P : Program) (kb : Nat) (lp : Lp) (es : List Le) (i : Nat) : Prop := ∀ j, i ≤ j → j < es.length → ∀ h, lp (firstId (es.getD j leNo).2.1) = some h → LhOk P kb (es.getD j leNo).2.1 h
theorem LpsOk.done {P : Program} {kb : Nat} {lp : Lp} {es : List Le} {i : Nat} (h : Nat.ble es.length i = true) : LpsOk P kb lp es i := fun j h1 h2 => by
  have := Nat.le_of_ble_eq_true h
  omega
theorem LpsOk.step {P : Program} {kb : Nat} {lp : Lp} {es : List Le} {i : Nat} {h0 : Lh} (e : lp (firstId (es.getD i leNo).2.1) = some h0) (h : LhOk P kb (es.getD i leNo).2.1 h0) (r : LpsOk P kb lp es (i + 1)) : LpsOk P kb lp es i := fun j h1 h2 g hg => by
  by_cases hj : j = i
  · subst hj
    rw [e] at hg
    cases hg
    exact h
  · exact r j (by omega) h2 g hg
theorem LpsOk.all {P : Program} {kb : Nat} {lp : Lp} {es : List Le} (h : LpsOk P kb lp es 0) : ∀ e ∈ es, ∀ g, lp (firstId e.2.1) = some g → LhOk P kb e.2.1 g := by
  intro e he g hg
  obtain ⟨j, hj⟩ := List.getElem?_of_mem he
  have hlt := (List.getElem?_eq_some_iff.1 hj).1
  have e0 : es.getD j leNo = e := by rw [List.getD_eq_getElem?_getD, hj]; rfl
  have := h j (Nat.zero_le _) hlt g
  rw [e0] at this
  exact this hg
theorem loop_sound {P : Program} {n : Nat} (hm : P.follows .mixedOrders = true) {cs : List (Nat × Hc)} (hcs : HcsOk P cs) {lp : Lp} {kb : Nat} {fn : Func} {e : Le} (hsub : LpsOk P kb lp (subs fn e) 0) (lo : Lo) (Fn : lo.st.den → Tr (DenX lo.xs))
    (hF : ∀ d y, lo.st.wf d → (Fn d).val = some y → ∃ k, lpN (ttOf P n) (hdT cs) (orderD (ttOf P n)) lp kb fn e k (lo.st.mk' d) (decX lo.xs) = some y) : LhOk P kb e.2.1 (loHd lo Fn) :=
  lo_sound (ttOf_ok P n) hm (hdT_ok hcs) (orderD_ok (ttOf_ok P n)) hsub.all lo Fn hF
theorem fn_sound {P : Program} {n : Nat} (hm : P.follows .mixedOrders = true) {cs : List (Nat × Hc)} (hcs : HcsOk P cs) {lp : Lp} {f : Nat} {fn : Func} (hf : P.funcs[f]? = some fn) (hname : (fn.name == "runtime.NumGoroutine") = false) (hbody : fn.body.isNone = false)
    (io : Io) (hlp : LpsOk P io.obs.length lp (tops fn) 0) (Fn : io.In → Tr io.Res) (hF : ∀ d out, io.wf d → (Fn d).val = some out → io.run (ttOf P n) (hdT cs) (orderD (ttOf P n)) lp fn d = some out) : HcOk P f (ioHd io Fn) := by
  refine io_sound (ttOf_ok P n) hm (hdT_ok hcs) (orderD_ok (ttOf_ok P n)) hf hname io lp (fun c hc => ?_) Fn (fun d out => hF d out) hbody
  have : fnCode fn = c := by unfold fnCode; rw [hc]
  have h := hlp.all
  unfold tops at h
  rw [this] at h
  exact h
end Go.Proofs.YtjpeefegeobgfaaGreat.Sym
namespace Go.Proofs.YtjpeefegeobgfaaGreat.Sym
open Go
set_option linter.unusedSimpArgs false
set_option linter.unusedVariables false
def seqL : Code → Code
  | .seq a _ => a
  | c => c
def seqR : Code → Code
  | .seq _ b => b
  | c => c
def condT : Code → Code
  | .cond _ t _ => t
  | c => c
def regOps : Code → Array Oper
  | .region _ ops _ => ops
  | _ => #[]
theorem noLoops {Pr : (Nat × Code × List (Nat × Nat)) → Prop} {lr l : Nat} {c : Code} {x : List (Nat × Nat)} (h : loopsOf lr c l x = []) : ∀ e ∈ loopsOf lr c l x, Pr e := by
  intro e he
  rw [h] at he
  cases he
noncomputable section
section
variable {P : Program} {tt : TT}
end
end
end Go.Proofs.YtjpeefegeobgfaaGreat.Sym
namespace Go.Proofs.YtjpeefegeobgfaaGreat.Sym
open Go
set_option linter.unusedSimpArgs false
set_option linter.unusedVariables false
noncomputable section
abbrev tt : TT := ttOf Go.Proofs.Tryz.prog 400
def dr : Dr := orderD (ttOf Go.Proofs.Tryz.prog 400)
theorem hm : Go.Proofs.Tryz.prog.follows .mixedOrders = true := by kernel_rfl
abbrev prog : Program := Go.Proofs.Tryz.prog
abbrev bs : Ty := .sl 5 (.int .u8)
abbrev dL : Sh := .dat bs false false
abbrev dO : Sh := .dat bs false true
abbrev dI : Sh := .dat (.int .i64) false false
abbrev dB : Sh := .dat .bool false false
abbrev dU : Sh := .dat (.int .u8) false false
theorem wrap_id {k : IntKind} {n : Int} (h : inR k n) : k.wrap n = n := by
  unfold inR at h
  cases k <;> simp [IntKind.wrap, IntKind.min, IntKind.max, IntKind.signed, IntKind.bits] at * <;> (try split) <;> omega
theorem wrap_i64 {n : Int} (h0 : -9223372036854775808 ≤ n) (h : n ≤ 9223372036854775807) : IntKind.wrap .i64 n = n := by
  apply wrap_id
  simp [inR, IntKind.min, IntKind.max, IntKind.signed, IntKind.bits]
  omega
theorem maxLen_eq : maxLen = 9223372036854775807 := rfl
theorem wrap_succ {i n : Nat} (h : i < n) (hn : n ≤ maxLen) : IntKind.wrap .i64 ((i : Int) + 1) = ((i + 1 : Nat) : Int) := by
  rw [wrap_i64] <;> rw [maxLen_eq] at hn <;> omega
theorem bif_true {α : Type} {c : Bool} (h : c = true) (a b : α) : (bif c then a else b) = a := by rw [h]; rfl
theorem bif_false {α : Type} {c : Bool} (h : c = false) (a b : α) : (bif c then a else b) = b := by rw [h]; rfl
theorem getD_lt {α : Type} {xs : List α} {i : Nat} {d : α} (h : i < xs.length) : xs.getD i d = xs[i] := by simp [List.getD, h]
theorem Tr.val_ret {α : Type} (a : α) : (Tr.ret a).val = some a := rfl
theorem Tr.val_ite {α : Type} (c : Bool) (t e : Tr α) : (Tr.ite c t e).val = if c = true then t.val else e.val := by cases c <;> rfl
theorem Tr.run_ret {α R : Type} (a : α) (K : α → Option R) : (Tr.ret a).run K = K a := rfl
theorem Tr.run_ite {α R : Type} (c : Bool) (t e : Tr α) (K : α → Option R) : (Tr.ite c t e).run K = if c = true then t.run K else e.run K := by cases c <;> rfl
theorem Tr.guard {α : Type} {c : Bool} {t : Tr α} {y : α} (h : (Tr.ite c t .no).val = some y) : c = true ∧ t.val = some y := by
  cases c with
  | true => exact ⟨rfl, h⟩
  | false => cases h
theorem toNat_of {i : Int} (h : 0 ≤ i) : ∃ n : Nat, i = n := ⟨i.toNat, by omega⟩
end
end Go.Proofs.YtjpeefegeobgfaaGreat.Sym
namespace Go.Proofs.YtjpeefegeobgfaaGreat.Sym
open Go
set_option linter.unusedSimpArgs false
set_option linter.unusedVariables false
noncomputable section
abbrev ioSame : Io := ⟨[dL, dL], [], [], [dB], none⟩
def FSame (d : ioSame.In) : Tr ioSame.Res := .ret (.ret ((decide (d.1.1 = d.1.2.1), ()), ()))
abbrev csSame : List (Nat × Hc) := []
def hdSame : Hd := hdT csSame
abbrev loSame_5 : Lo := ⟨⟨[.one (.hol (.sl 5 (Ty.int IntKind.u8))), .one (.hol (.sl 5 (Ty.int IntKind.u8))), .any, .any, .any, .one (.hol (.int IntKind.i64)), .any, .any, .any, .any, .any, .any, .any, .any, .any, .any, .any, .any, .any, .any, .any, .any, .any, .any, .any, .any], []⟩, [(.ret, ⟨[.any, .any, .any, .any, .one (.hol .bool), .any, .any, .any, .any, .any, .any, .any, .any, .any, .any, .any, .any, .any, .any, .any, .any, .any, .any, .any, .any, .any], []⟩), (.exit 0, ⟨[.any, .any, .any, .any, .any, .any, .any, .any, .any, .any, .any, .any, .any, .any, .any, .any, .any, .any, .any, .any, .any, .any, .any, .any, .any, .any], []⟩)]⟩
-- FSame_5 : loSame_5.st.den → Tr (DenX loSame_5.xs) | ((h2, (h3, (h4, ()))), ())
def FSame_5 (d : loSame_5.st.den) : Tr (DenX loSame_5.xs) :=
  .ite (decide (0 ≤ d.1.2.2.1) && decide (d.1.1.length = d.1.2.1.length)) (.ite (decide (d.1.1.drop d.1.2.2.1.toNat = d.1.2.1.drop d.1.2.2.1.toNat)) (.ret (.pan (.ret ((), ((), ()))))) (.ret (.ret ((), ((false, ()), ()))))) .no
def lpSame : Lp := lpT [(5, loHd loSame_5 FSame_5)]
def stepSame_5 {R : Type} (h2 : List Int) (h3 : List Int) (h4 : Int) (next : List Int → List Int → Int → Option R) (out : DenX loSame_5.xs → Option R) : Option R := bif decide (h4 < (↑h2.length : Int)) then bif decide (0 ≤ h4) && decide (h4 < (↑h2.length : Int)) then bif decide (0 ≤ h4) && decide (h4 < (↑h3.length : Int)) then bif h2.getD h4.toNat 0 != h3.getD h4.toNat 0 then out (.ret ((), ((false, ()), ()))) else next (h2) (h3) (IntKind.i64.wrap (h4 + 1)) else none else none else out (.pan (.ret ((), ((), ()))))
def itSame_5 (n : Nat) (h2 : List Int) (h3 : List Int) (h4 : Int) : Option (DenX loSame_5.xs) := lpN tt hdSame dr lpSame 0 Go.Proofs.Tryz.f49 (topL Go.Proofs.Tryz.f49 0) n (loSame_5.st.mk' ((h2, (h3, (h4, ()))), ())) (decX loSame_5.xs)
theorem slSame_5 (n : Nat) (h2 : List Int) (h3 : List Int) (h4 : Int) : itSame_5 (n + 1) h2 h3 h4 = stepSame_5 h2 h3 h4 (itSame_5 n) some := by kernel_rfl
theorem loopSame (xs ys : List Int) (hl : xs.length = ys.length) (hb : xs.length ≤ maxLen) : ∀ (k i : Nat), i ≤ xs.length → xs.length < i + k →
    itSame_5 k xs ys (i : Int) = if xs.drop i = ys.drop i then some (.pan (.ret ((), ((), ())))) else some (.ret ((), ((false, ()), ()))) := by
  intro k
  induction k with
  | zero => intro i h h'; omega
  | succ k ih =>
    intro i hi h
    rw [slSame_5]
    unfold stepSame_5
    by_cases h1 : i < xs.length
    · have h2 : i < ys.length := by omega
      rw [wrap_succ h1 hb, ih (i + 1) h1 (by omega)]
      have e : (xs.drop i = ys.drop i) ↔ (xs[i] = ys[i] ∧ xs.drop (i + 1) = ys.drop (i + 1)) := by rw [List.drop_eq_getElem_cons h1, List.drop_eq_getElem_cons h2, List.cons.injEq]
      simp only [Int.toNat_natCast, getD_lt h1, getD_lt h2]
      by_cases he : xs[i] = ys[i] <;> simp [h1, h2, he, e, cond_eq_ite]
    · rw [List.drop_of_length_le (by omega), List.drop_of_length_le (by omega)]
      simp [h1]
def bodySame (a0 : List Int) (a1 : List Int) : Option ioSame.Res := bif (↑a0.length : Int) != (↑a1.length : Int) then some (Out.ret ((false, ()), ())) else (FSame_5 ((a0, (a1, (0, ()))), ())).run fun y => match y with | .ret ((), ((x9, ()), ())) => (some (Out.ret ((x9, ()), ()))) | .pan (.ret ((), ((), ()))) => (some (Out.ret ((true, ()), ())))
theorem runSame (a0 : List Int) (a1 : List Int) : Io.run tt hdSame dr lpSame ioSame Go.Proofs.Tryz.f49 ((a0, a1, ()), ()) = bodySame a0 a1 := by kernel_rfl
theorem okSame : HcOk prog 49 (ioHd ioSame FSame) := by
  refine fn_sound (n := 400) hm (cs := csSame) HcsOk.nil (lp := lpSame) (fn := Go.Proofs.Tryz.f49) (by kernel_rfl) (by kernel_rfl) (by kernel_rfl) ioSame
    (.step (h0 := loHd loSame_5 FSame_5) (by kernel_rfl) (loop_sound (n := 400) hm (cs := csSame) HcsOk.nil (lp := lpSame) (fn := Go.Proofs.Tryz.f49) (.done (by kernel_rfl)) loSame_5 FSame_5 ?_) (.done (by kernel_rfl))) FSame ?_
  · rintro ⟨⟨xs, ys, i, ⟨⟩⟩, ⟨⟩⟩ y hw hy
    obtain ⟨hg, hy⟩ := Tr.guard hy
    simp only [Bool.and_eq_true, decide_eq_true_eq] at hg
    obtain ⟨n, rfl⟩ := toNat_of hg.1
    by_cases hn : n ≤ xs.length
    · refine ⟨xs.length + 1, (loopSame xs ys hg.2 hw.1.1.1 _ n hn (by omega)).trans ?_⟩
      rw [← hy]
      simp only [Tr.val_ite, decide_eq_true_eq, Int.toNat_natCast, Tr.val_ret]
    · refine ⟨1, ?_⟩
      show itSame_5 (0 + 1) xs ys n = _
      rw [slSame_5, ← hy]
      unfold stepSame_5
      have h1 : ¬ n < xs.length := by omega
      simp [Tr.val_ite, Tr.val_ret, h1, List.drop_of_length_le (show xs.length ≤ n by omega), List.drop_of_length_le (show ys.length ≤ n by omega)]
  · rintro ⟨⟨xs, ys, ⟨⟩⟩, ⟨⟩⟩ out hw ho
    refine (runSame xs ys).trans ?_
    cases ho
    unfold bodySame
    by_cases hl : xs.length = ys.length
    · by_cases he : xs = ys
      · subst he; simp [FSame_5, Tr.run]
      · simp [FSame_5, Tr.run, hl, he]
    · have : xs ≠ ys := fun e => hl (by rw [e])
      have h2 : (xs.length : Int) ≠ ys.length := by omega
      simp [this, h2, cond_eq_ite]
end
end Go.Proofs.YtjpeefegeobgfaaGreat.Sym
namespace Go.Proofs.YtjpeefegeobgfaaGreat.Sym
open Go
open Go.ChangeShapes Go.WideShapes Go.ChangeAt Go.RowKit
set_option linter.unusedSimpArgs false
set_option linter.unusedVariables false
def okTF (P : Program) : Ty → (TypeId ⊕ (List Field × Nat)) → Bool
  | .int k, .inl t => match P.underlying t with
    | some (.int k') => decide (k' = k)
    | _ => false
  | .bool, .inl t => match P.underlying t with
    | some .bool => true
    | _ => false
  | .str, .inl t => match P.underlying t with
    | some .string => true
    | _ => false
  | .sl e ty, .inl t => match P.underlying t with
    | some (.slice e') => (e' == e) && (okTF P ty (.inl e) && ((P.cellsOf e == ty.size) && !(ty.size == 0)))
    | _ => false
  | .prod a b, .inl t => match P.underlying t with
    | some (.struct fs) => (P.cellsOf t == a.size + b.size) && match fs.toList with
      | f :: fs' => (f.offset == 0) && ((P.cellsOf f.type == a.size) && (okTF P a (.inl f.type) && okTF P b (.inr (fs', a.size))))
      | [] => false
    | _ => false
  | .unit, .inr ([], _) => true
  | .prod a b, .inr (f :: fs, off) => (f.offset == off) && ((P.cellsOf f.type == a.size) && (okTF P a (.inl f.type) && okTF P b (.inr (fs, off + a.size))))
  | _, _ => false
def dsz : (t : Ty) → t.den → Nat
  | .int _, _ => 1
  | .bool, _ => 1
  | .str, s => List.length (α := Int) s + 1
  | .sl _ t, xs => (List.map (dsz t) xs).sum + 1
  | .unit, _ => 0
  | .prod a b, x => dsz a x.1 + dsz b x.2
  | .tree _ _, _ => 0
def S0 (W : World) (b o : Nat) : Prop := ∃ v, W.cell? ⟨b, o, none⟩ = some v
section
variable {P : Program} {W : World} {H : Type} {enc : TypeId × Value → H} {sp : Nat → Bool} {held : Bool}
theorem cells_at {a : Addr} {n : Nat} {cs : List Value} (h : W.cells? 0 a n = some cs) (hn : 0 < n) : a.spot = none ∧ cs.length = n ∧ At (S0 W) W a.block a.off cs := by
  simp only [World.cells?, Nat.zero_le, if_true] at h
  have hl := mapM_some_length h
  rw [List.length_range] at hl
  have hg : ∀ i, i < n → W.cell? (a.add i) = cs[i]? := fun i hi => mapM_some_get h i i (by simp [hi])
  have hsp : a.spot = none := by
    have h0 := hg 0 hn
    rw [List.getElem?_eq_getElem (by omega)] at h0
    unfold World.cell? at h0
    split at h0
    · split at h0
      · cases h0
      · rename_i hs
        cases e : a.spot with
        | none => rfl
        | some x => simp [Addr.add, e] at hs
    · cases h0
  refine ⟨hsp, hl, fun j v hv => ?_⟩
  have hj : j < n := by rw [← hl]; exact (List.getElem?_eq_some_iff.1 hv).1
  have := hg j hj
  rw [hv] at this
  have e : a.add j = ⟨a.block, a.off + j, none⟩ := by
    obtain ⟨b, o, s⟩ := a
    simp only at hsp
    subst hsp
    exact Addr.add_plain ..
  rw [e] at this
  exact ⟨⟨v, this⟩, this⟩
theorem trod_dat (ub : DataW H → Nat) (uba : List (DataW H) → Nat) (u1 : ∀ l, 1 ≤ ub (.lit l)) (u2 : ∀ bs, bs.length + 1 ≤ ub (.lit (.string bs))) (u3 : 1 ≤ ub .nil) (u4 : ∀ es ss, uba es + 1 ≤ ub (.slice es ss)) (u5 : ∀ ps, uba ps ≤ ub (.agg ps))
    (u6 : ∀ d ds, uba (d :: ds) = ub d + uba ds) (u7 : uba [] = 0) :
    ∀ (ty : Ty), (∀ (t : TypeId), okTF P ty (.inl t) = true → ∀ (fuel : Nat) (cs : List Value) (x : DataW H × List MemPlace), DataW.trod enc P W 0 sp held fuel t cs = some x → ∃ y : ty.den, Rt (S0 W) W ty y cs ∧ dsz ty y ≤ ub x.1) ∧
      (∀ (fs : List Field) (off : Nat), okTF P ty (.inr (fs, off)) = true → ∀ (fuel : Nat) (cs : List Value) (xs : List (DataW H × List MemPlace)), fs.mapM (fun f => DataW.trod enc P W 0 sp held fuel f.type ((cs.drop f.offset).take (P.cellsOf f.type))) = some xs →
        (cs.drop off).length = ty.size → ∃ y : ty.den, Rt (S0 W) W ty y (cs.drop off) ∧ dsz ty y ≤ uba (xs.map (·.1)))
  | .int k => by
    refine ⟨fun t ht fuel cs x h => ?_, fun fs off ht => by cases fs <;> simp [okTF] at ht⟩
    simp only [okTF] at ht
    split at ht
    · rename_i k' hu
      have ht := of_decide_eq_true ht
      subst ht
      obtain ⟨n2, rfl, rfl, hw⟩ := DataW.trod_int hu h
      refine ⟨n2, ⟨rfl, ?_⟩, u1 _⟩
      simpa [Lit.wf, inR] using hw
    · cases ht
  | .bool => by
    refine ⟨fun t ht fuel cs x h => ?_, fun fs off ht => by cases fs <;> simp [okTF] at ht⟩
    simp only [okTF] at ht
    split at ht
    · rename_i hu
      obtain ⟨b, rfl, rfl⟩ := DataW.trod_bool hu h
      exact ⟨b, rfl, u1 _⟩
    · cases ht
  | .str => by
    refine ⟨fun t ht fuel cs x h => ?_, fun fs off ht => by cases fs <;> simp [okTF] at ht⟩
    simp only [okTF] at ht
    split at ht
    · rename_i hu
      obtain ⟨s, rfl, rfl, hl⟩ := DataW.trod_string hu h
      refine ⟨unStr s, ⟨by rw [mkStr_unStr], unStr_byteR s, ?_⟩, ?_⟩
      · have : (unStr s).length = s.size := by rw [← mkStr_size, mkStr_unStr]
        rw [this]; exact hl
      · have : (unStr s).length = s.data.toList.length := by unfold unStr; exact List.length_map _
        show (unStr s).length + 1 ≤ _
        rw [this]
        exact u2 _
    · cases ht
  | .unit => by
    refine ⟨fun t ht => by simp [okTF] at ht, fun fs off ht fuel cs xs h hl => ?_⟩
    refine ⟨(), ?_, Nat.zero_le _⟩
    exact List.eq_nil_of_length_eq_zero hl
  | .sl e ty => by
    refine ⟨fun t ht fuel cs x h => ?_, fun fs off ht => by cases fs <;> simp [okTF] at ht⟩
    simp only [okTF] at ht
    split at ht
    · rename_i e' hu
      simp only [Bool.and_eq_true, beq_iff_eq, Bool.not_eq_true', beq_eq_false_iff_ne] at ht
      obtain ⟨rfl, hT, hsz, hpos⟩ := ht
      have ih := (trod_dat ub uba u1 u2 u3 u4 u5 u6 u7 ty).1 e' hT
      rcases DataW.trod_slice hu h with ⟨rfl, rfl⟩ | ⟨a, len, cap, elems, rest, n, _, rfl, rfl, hb, hl, hm, hlen, hel, _, _⟩
      · exact ⟨[], ⟨none, 0, rfl, Nat.le_refl _, Nat.zero_le _, fun h => absurd rfl h⟩, u3⟩
      · have each : ∀ i, i < len → ∃ y : ty.den, (∃ c, Rt (S0 W) W ty y c ∧ (i = 0 → a.spot = none) ∧ At (S0 W) W a.block (a.off + i * ty.size) c) ∧ ∃ d, elems[i]? = some d ∧ dsz ty y ≤ ub d.1 := by
          intro i hi
          have h1 := hel i hi
          rw [List.getElem?_eq_getElem (by omega)] at h1
          obtain ⟨c, hc, hd⟩ := Option.bind_eq_some_iff.1 h1
          obtain ⟨y, hy, hs⟩ := ih _ _ _ hd
          rw [hsz] at hc
          obtain ⟨h2, h3, h4⟩ := cells_at hc (by omega)
          have e1 : (a.add (i * ty.size)).block = a.block := by unfold Addr.add; split <;> rfl
          have e2 : (a.add (i * ty.size)).off = a.off + i * ty.size := by
            unfold Addr.add
            split
            · rename_i h0; rw [h0]; rfl
            · rfl
          rw [e1, e2] at h4
          refine ⟨y, ⟨c, hy, fun h0 => ?_, h4⟩, elems[i], by simp, hs⟩
          subst h0
          simpa [Addr.add] using h2
        have mk : ∀ m, m ≤ len → ∃ ys : List ty.den, ys.length = m ∧ (∀ i y, ys[i]? = some y → ∃ c, Rt (S0 W) W ty y c ∧ (i = 0 → a.spot = none) ∧ At (S0 W) W a.block (a.off + i * ty.size) c) ∧ (ys.map (dsz ty)).sum ≤ uba ((elems.take m).map (·.1)) := by
          intro m
          induction m with
          | zero => intro _; exact ⟨[], rfl, fun i y h => by simp at h, by simp⟩
          | succ m ihm =>
            intro hm'
            obtain ⟨ys, g1, g2, g3⟩ := ihm (by omega)
            obtain ⟨y, g4, d, g5, g6⟩ := each m (by omega)
            refine ⟨ys ++ [y], by simp [g1], fun i z hz => ?_, ?_⟩
            · rw [List.getElem?_append] at hz
              split at hz
              · exact g2 i z hz
              · rename_i hlt
                have : i = m := by
                  have := (List.getElem?_eq_some_iff.1 hz).1
                  simp at this; omega
                subst this
                simp [g1] at hz
                subst hz
                exact g4
            · have hap : ∀ (xs bs : List (DataW H)), uba (xs ++ bs) = uba xs + uba bs := by
                intro xs bs
                induction xs with
                | nil => simp [u7]
                | cons c xs ih => rw [List.cons_append, u6, u6, ih]; omega
              rw [List.take_add_one, g5]
              simp only [List.map_append, List.sum_append, hap, Option.toList, List.map_cons, List.map_nil, List.sum_cons, List.sum_nil, u6, u7]
              omega
        obtain ⟨ys, g1, g2, g3⟩ := mk len (Nat.le_refl _)
        refine ⟨ys, ⟨some a, cap, by rw [g1], by omega, hm, fun hne => ?_⟩, ?_⟩
        · have h0 : 0 < ys.length := List.length_pos_iff.2 hne
          obtain ⟨c, _, hsp, _⟩ := g2 0 ys[0] (by simp)
          have hsp := hsp rfl
          refine ⟨a.block, a.off, ?_, fun i y hy => ?_⟩
          · obtain ⟨b, o, s⟩ := a
            simp only at hsp
            rw [hsp]
          · obtain ⟨c, hc, _, hat⟩ := g2 i y hy
            exact ⟨c, hc, hat⟩
        · rw [List.take_of_length_le (by omega)] at g3
          show (ys.map (dsz ty)).sum + 1 ≤ _
          exact Nat.le_trans (by omega) (u4 _ _)
    · cases ht
  | .tree a e => ⟨fun t ht => by simp [okTF] at ht, fun fs off ht => by cases fs <;> simp [okTF] at ht⟩
  | .prod a b => by
    have step : ∀ (f : Field) (fs : List Field) (off : Nat), ((f.offset == off) && ((P.cellsOf f.type == a.size) && (okTF P a (.inl f.type) && okTF P b (.inr (fs, off + a.size))))) = true →
        ∀ (fuel : Nat) (cs : List Value) (xs : List (DataW H × List MemPlace)), (f :: fs).mapM (fun f => DataW.trod enc P W 0 sp held fuel f.type ((cs.drop f.offset).take (P.cellsOf f.type))) = some xs →
        (cs.drop off).length = a.size + b.size → ∃ y : a.den × b.den, Rt (S0 W) W (.prod a b) y (cs.drop off) ∧ dsz a y.1 + dsz b y.2 ≤ uba (xs.map (·.1)) := by
      intro f fs off ht fuel cs xs h hl
      simp only [Bool.and_eq_true, beq_iff_eq] at ht
      obtain ⟨rfl, hs, hA, hB⟩ := ht
      simp only [List.mapM_cons, Option.bind_eq_bind, Option.bind_eq_some_iff] at h
      obtain ⟨x0, h0, xs', h1, h2⟩ := h
      simp only [Option.pure_def, Option.some.injEq] at h2
      subst h2
      rw [hs] at h0
      obtain ⟨y1, hy1, hd1⟩ := (trod_dat ub uba u1 u2 u3 u4 u5 u6 u7 a).1 f.type hA _ _ _ h0
      have hl2 : (cs.drop (f.offset + a.size)).length = b.size := by
        simp only [List.length_drop] at hl ⊢
        omega
      obtain ⟨y2, hy2, hd2⟩ := (trod_dat ub uba u1 u2 u3 u4 u5 u6 u7 b).2 fs _ hB _ _ _ h1 hl2
      refine ⟨(y1, y2), ⟨_, _, ?_, hy1, hy2⟩, ?_⟩
      · rw [← List.drop_drop, List.take_append_drop]
      · simp only [List.map_cons, u6]
        omega
    refine ⟨fun t ht fuel cs x h => ?_, fun fs off ht fuel cs xs h hl => ?_⟩
    · simp only [okTF] at ht
      split at ht
      · rename_i fs hu
        simp only [Bool.and_eq_true, beq_iff_eq] at ht
        obtain ⟨hsz, ht⟩ := ht
        split at ht
        · rename_i f fs' hfs
          cases fuel with
          | zero => simp [DataW.trod] at h
          | succ n =>
            unfold DataW.trod at h
            rw [hu] at h
            simp only at h
            split at h
            · rename_i hlen
              obtain ⟨xs, hxs, rfl⟩ := Option.map_eq_some_iff.1 h
              rw [hfs] at hxs
              obtain ⟨y, hy, hd⟩ := step f fs' 0 (by simpa using ht) n cs xs hxs (by simpa [hsz] using hlen)
              exact ⟨y, by simpa using hy, Nat.le_trans hd (u5 _)⟩
            · cases h
        · cases ht
      · cases ht
    · cases fs with
      | nil => simp [okTF] at ht
      | cons f fs => exact step f fs off (by simpa only [okTF] using ht) fuel cs xs h hl
theorem datOf {ty : Ty} {t : TypeId} (ht : okTF P ty (.inl t) = true) {fuel : Nat} {cs : List Value} {d : DataW H} {ps : List MemPlace} (h : DataW.trod enc P W 0 sp held fuel t cs = some (d, ps)) : ∃ y : ty.den, Rt (S0 W) W ty y cs ∧ dsz ty y ≤ Rows.uptoBulk d :=
  (trod_dat Rows.uptoBulk Rows.uptoBulkAll (fun l => by cases l <;> simp [Rows.uptoBulk]) (fun bs => by simp [Rows.uptoBulk]) (by simp [Rows.uptoBulk]) (fun es ss => by simp [Rows.uptoBulk]) (fun ps => by simp [Rows.uptoBulk]) (fun d ds => by simp [Rows.uptoBulkAll]) (by simp [Rows.uptoBulkAll]) ty).1 t ht fuel cs _ h
def G0 (W : World) : Gh := ⟨S0 W, fun _ => none, fun _ => none⟩
def F0 (W : World) : Fra := ⟨W, fun _ => False, S0 W, fun _ => none⟩
theorem rel0 (W : World) : Rel (F0 W) (G0 W) ⟨[], [], []⟩ #[] [] W where
  tm := trivial
  stk := trivial
  ob := fun k cs h => by simp at h
  gh := ⟨fun _ _ h => (by cases h), fun _ _ _ h => (by cases h), fun _ _ _ h => (by cases h), fun _ _ _ _ _ h => (by cases h), fun b o h => (by
      obtain ⟨v, h⟩ := h
      unfold World.cell? at h
      split at h
      · rename_i e
        exact (Array.getElem?_eq_some_iff.1 e).1
      · cases h), ⟨rfl, rfl, rfl, Nat.le_refl _, fun _ _ _ => rfl⟩, fun _ _ h => h, fun _ _ h => .inl h, fun _ _ _ => rfl, fun _ _ h => (by cases h)⟩
def lawK (oc : Oc) (A : AS) : Option Unit := match oc with
  | .ret (.one (.bool true)) _ => some ()
  | _ => none
theorem law_calls {f : Nat} {io : Io} {Fn : io.In → Tr io.Res} (hok : HcOk P f (ioHd io Fn)) {args : List V} {vals : Array Value} (hargs : All2 (Rv (G0 W) W) args vals.toList) (hrun : ioHd io Fn Unit args 1 ⟨[], [], []⟩ lawK = some ()) :
    Calls P f vals W fun e w' => e = .returned (.bool true) ∧ w'.os = W.os ∧ w'.output = W.output ∧ ∀ i, i < W.heap.size → w'.heap[i]? = W.heap[i]? := by
  refine (hok Unit args 1 _ lawK () (F0 W) (G0 W) #[] [] W vals (fun _ => rfl) hrun (rel0 W) hargs).2.mono ?_
  rintro e w' ⟨G', A', v, u, R', hv, h⟩
  have hfr := R'.gh.fr
  refine ⟨?_, hfr.os, hfr.output, fun i hi => hfr.block i hi (fun h => h)⟩
  rcases h with ⟨rfl, ks, _, hk⟩ | ⟨rfl, hk⟩
  · unfold lawK at hk
    split at hk
    · rename_i e
      cases e
      rw [show u = .bool true from hv]
    · cases hk
  · cases hk
def argV (ty : Ty) (y : ty.den) : V := bif ty.isProd then .agg (toCs ty y) else match toCs ty y with
  | [c] => .one c
  | _ => .any
theorem argV_sound {G : Gh} {ty : Ty} {y : ty.den} {v : Value} (h : Rt G.S W ty y v.cells.toList) (hp : ty.isProd = true → ∃ vs, v = .agg vs) (hn : ty.isProd = false → v.cells = #[v]) : Rv G W (argV ty y) v := by
  have hs := toCs_sound (G := G) (w := W) ty y _ h
  unfold argV
  cases hb : ty.isProd with
  | true =>
    obtain ⟨vs, rfl⟩ := hp hb
    exact ⟨vs, rfl, hs⟩
  | false =>
    rw [hn hb] at hs
    simp only [cond_false]
    split
    · rename_i c e
      rw [e] at hs
      exact hs.1
    · trivial
theorem arg_shape {ty : Ty} {t : TypeId} (ht : okTF P ty (.inl t) = true) {r : Reach} {base : Nat} {v : Value} (hval : Value.okWide P W r base t v) : (ty.isProd = true → ∃ vs, v = .agg vs) ∧ (ty.isProd = false → v.cells = #[v]) := by
  cases ty with
  | tree a e => simp [okTF] at ht
  | int k =>
    refine ⟨fun h => (by cases h), fun _ => ?_⟩
    simp only [okTF] at ht
    split at ht
    · rename_i k' hu
      cases v <;> simp [Value.okWide, hu, Cell.okWide, Cell.ok] at hval <;> rfl
    · cases ht
  | bool =>
    refine ⟨fun h => (by cases h), fun _ => ?_⟩
    simp only [okTF] at ht
    split at ht
    · rename_i hu
      cases v <;> simp [Value.okWide, hu, Cell.okWide, Cell.ok] at hval <;> rfl
    · cases ht
  | str =>
    refine ⟨fun h => (by cases h), fun _ => ?_⟩
    simp only [okTF] at ht
    split at ht
    · rename_i hu
      cases v <;> simp [Value.okWide, hu, Cell.okWide, Cell.ok] at hval <;> rfl
    · cases ht
  | sl e ty =>
    refine ⟨fun h => (by cases h), fun _ => ?_⟩
    simp only [okTF] at ht
    split at ht
    · rename_i e' hu
      cases v <;> simp [Value.okWide, hu, Cell.okWide, Cell.ok] at hval <;> rfl
    · cases ht
  | unit => simp [okTF] at ht
  | prod a b =>
    refine ⟨fun _ => ?_, fun h => (by cases h)⟩
    simp only [okTF] at ht
    split at ht
    · rename_i fs hu
      simp only [Value.okWide, hu] at hval
      obtain ⟨cs, rfl, _⟩ := hval
      exact ⟨cs, rfl⟩
    · cases ht
def slicesB (P : Program) : Bool := (List.range P.types.size).all fun t => match P.underlying t with
  | some (.slice e) => decide (0 < P.cellsOf e)
  | _ => true
theorem args_stay (hl : laidOutB P = true) (hm : mapsRowed P = true) (hs : slicesB P = true) {W' : World} (hk : ∀ i, i < W.heap.size → W'.heap[i]? = W.heap[i]?) : ∀ {ts : List TypeId} {vs : List Value} {ds : List (DataW H)} {ps : List MemPlace},
    (∀ t ∈ ts, t < P.types.size) → DataW.TrodAll enc P W 0 (fun _ => true) true ts vs ds ps → (∀ p ∈ ps, sp p.block = true) → DataW.TrodAll enc P W' 0 sp true ts vs ds ps
  | [], [], [], _, _, h, _ => h
  | t :: ts, v :: vs, d :: ds, ps, hT, ⟨p, q, ⟨fuel, h1⟩, h2, e⟩, hsp => by
    refine ⟨p, q, ⟨fuel, DataW.trod_stays (kids_rows hl hm) (fun {t e} ht hu => ?_) (fun h => (by cases h)) (hT t (by simp)) h1 (fun x hx => ?_) fun x hx => hsp x (by rw [e]; exact List.mem_append_left _ hx)⟩,
      args_stay hl hm hs hk (fun t ht => hT t (by simp [ht])) h2 (fun x hx => hsp x (by rw [e]; exact List.mem_append_right _ hx)), e⟩
    · have := List.all_eq_true.1 hs t (by simpa using ht)
      rw [hu] at this
      exact of_decide_eq_true this
    · have hb := DataW.trod_lt _ _ _ _ h1 x hx
      cases x with
      | cell b off => simp [World.sameAt, World.cell?, hk b hb]
      | map b => exact hk b hb
  | [], [], _ :: _, _, _, h, _ => h.elim
  | [], _ :: _, _, _, _, h, _ => h.elim
  | _ :: _, [], _, _, _, h, _ => h.elim
  | _ :: _, _ :: _, [], _, _, h, _ => h.elim
theorem post_law {f : Func} {s : ChangeSpec} {apart fresh handsOn again : Bool} {W' : World} {args : Array Value} {ds gs : List (DataW H)} {before : List MemPlace}
    (hl : laidOutB P = true) (hm : mapsRowed P = true) (hs : slicesB P = true) (hT : ∀ t ∈ f.params.toList, t < P.types.size) {tb : TypeId} (hr : f.resultTypes = #[tb]) (htb : P.underlying tb = some .bool) (hv : s.vars = [])
    (hW : DataW.Whole enc P f.params.toList s.vars apart W args.toList ds gs before) (hfn : s.fn H (ds ++ gs) = { results := [.lit (.bool true)], args := ds })
    (hos : W'.os = W.os) (hout : W'.output = W.output) (hk : ∀ i, i < W.heap.size → W'.heap[i]? = W.heap[i]?) : s.post enc P f apart fresh handsOn again W args (.bool true) W' := by
  have hlt := hW.lt
  obtain ⟨p, q, hA, hV, hpq, hfz, hnd⟩ := id hW
  rw [hv] at hV
  obtain ⟨rfl, rfl⟩ := trodVars_none hV
  rw [List.append_nil] at hpq
  subst hpq
  have hres : ∀ (b : Nat) (sp : Nat → Bool) (hd : Bool), DataW.TrodAll enc P W' b sp hd f.resultTypes.toList ((Value.bool true).resultList f.resultTypes.size) [.lit (.bool true)] [] := by
    intro b sp hd
    rw [hr]
    exact trodAll_cons_mk (shut_bool htb _) trodAll_mk0
  have hargs : ∀ sp : Nat → Bool, (∀ x ∈ before, sp x.block = true) → DataW.TrodAll enc P W' 0 sp true f.params.toList args.toList ds before :=
    fun sp hsp => args_stay hl hm hs hk hT hA hsp
  have hvars : ∀ sp : Nat → Bool, DataW.TrodVars enc P W' sp s.vars [] [] := by
    intro sp
    rw [hv]
    rfl
  have hold : ∀ x ∈ before, (fun b => decide (b < W.heap.size)) x.block = true := fun x hx => by simpa using hlt x hx
  have hkept : ∀ may : MemPlace → Prop, W.keptBut W' may := fun may => ⟨hos, hout, fun i hi => by
    rw [hk i hi]
    cases h : W.heap[i]? with
    | none => rfl
    | some o => cases o <;> simp⟩
  refine ⟨ds, [], before, [], before, [], hW, by rw [hfn]; exact hres _ _ _, by rw [hfn]; exact hargs _ hold, by rw [hfn]; exact hvars _, hkept _, fun _ => ?_⟩
  refine ⟨ok_one hr rfl (okWide_bool_mk htb true), [.lit (.bool true)] ++ ds, [], [] ++ before, ⟨[] ++ before, [], trodAll_append (hargs _ fun _ _ => rfl) (hres _ _ _), hvars _, by simp, fun b off hx => ?_, fun ha => by simpa using hnd ha⟩, fun x hx _ => by simpa using hx⟩
  have hx : MemPlace.cell b off ∈ before := by simpa using hx
  rw [← hfz b off hx]
  simp [World.frozen?, hk b (hlt _ hx)]
@[reducible] def TysDen : List Ty → Type
  | [] => Unit
  | t :: ts => t.den × TysDen ts
def argVs : (tys : List Ty) → TysDen tys → List V
  | [], _ => []
  | t :: ts, y => argV t y.1 :: argVs ts y.2
def dszs : (tys : List Ty) → TysDen tys → Nat
  | [], _ => 0
  | t :: ts, y => dsz t y.1 + dszs ts y.2
def wfs : (tys : List Ty) → TysDen tys → Prop
  | [], _ => True
  | t :: ts, y => t.wf y.1 ∧ wfs ts y.2
def okTs (P : Program) : List Ty → List TypeId → Bool
  | [], [] => true
  | ty :: tys, t :: ts => okTF P ty (.inl t) && okTs P tys ts
  | _, _ => false
theorem args_dat {r : Reach} {base : Nat} : ∀ (tys : List Ty) (ts : List TypeId), okTs P tys ts = true → ∀ {vs : List Value} {ds : List (DataW H)} {ps : List MemPlace}, DataW.TrodAll enc P W 0 sp held ts vs ds ps →
    (∀ (j : Nat) t v, ts[j]? = some t → vs[j]? = some v → Value.okWide P W r base t v) →
    ∃ ys : TysDen tys, All2 (Rv (G0 W) W) (argVs tys ys) vs ∧ dszs tys ys ≤ Rows.uptoBulkAll ds ∧ wfs tys ys ∧ ds.length = tys.length
  | [], [], _, [], [], _, _, _ => ⟨(), trivial, Nat.zero_le _, trivial, rfl⟩
  | ty :: tys, t :: ts, ht, v :: vs, d :: ds, _, ⟨p, q, ⟨fuel, h1⟩, h2, _⟩, hv => by
    simp only [okTs, Bool.and_eq_true] at ht
    obtain ⟨y, hy, hs⟩ := datOf ht.1 h1
    obtain ⟨k1, k2⟩ := arg_shape ht.1 (hv 0 t v rfl rfl)
    obtain ⟨ys, g1, g2, g3, g4⟩ := args_dat tys ts ht.2 h2 fun j t' v' e1 e2 => hv (j + 1) t' v' (by simpa using e1) (by simpa using e2)
    refine ⟨(y, ys), ⟨argV_sound hy k1 k2, g1⟩, ?_, ⟨Rt.wf ty y _ hy, g3⟩, by simp [g4]⟩
    simp only [dszs, Rows.uptoBulkAll]
    omega
  | [], [], _, [], _ :: _, _, h, _ => h.elim
  | [], [], _, _ :: _, _, _, h, _ => h.elim
  | _ :: _, _ :: _, _, [], _, _, h, _ => h.elim
  | _ :: _, _ :: _, _, _ :: _, [], _, h, _ => h.elim
  | [], _ :: _, h, _, _, _, _, _ => by cases h
  | _ :: _, [], h, _, _, _, _, _ => by cases h
theorem law_contract {fn : Func} {f : Nat} {io : Io} {Fn : io.In → Tr io.Res} (hok : HcOk P f (ioHd io Fn)) {s : ChangeSpec} (tys : List Ty) (hts : okTs P tys fn.params.toList = true)
    (hl : laidOutB P = true) (hm : mapsRowed P = true) (hs : slicesB P = true) (hT : ∀ t ∈ fn.params.toList, t < P.types.size) {tb : TypeId} (hr : fn.resultTypes = #[tb]) (htb : P.underlying tb = some .bool) (hv : s.vars = [])
    (hfn : ∀ ds : List (DataW H), ds.length = tys.length → s.fn H ds = { results := [.lit (.bool true)], args := ds })
    (hrun : ∀ ys : TysDen tys, dszs tys ys ≤ 1048576 → wfs tys ys → ioHd io Fn Unit (argVs tys ys) 1 ⟨[], [], []⟩ lawK = some ())
    (base : Nat) (args : Array Value) (ds gs : List (DataW H)) (before : List MemPlace)
    (hval : ∀ (j : Nat) t v, fn.params[j]? = some t → args[j]? = some v → Value.okWide P W .any base t v)
    (hW : DataW.Whole enc P fn.params.toList s.vars false W args.toList ds gs before) (hk : Rows.uptoSmall H (ds ++ gs) = true) :
    Calls P f args W fun e W' => ∃ v, e = .returned v ∧ s.post enc P fn false true false false W args v W' := by
  have hW' := hW
  obtain ⟨p, q, hA, hV, _, _, _⟩ := hW
  rw [hv] at hV
  obtain ⟨rfl, rfl⟩ := trodVars_none hV
  obtain ⟨ys, g1, g2, g3, g4⟩ := args_dat tys fn.params.toList hts hA fun j t v e1 e2 => hval j t v (by simpa using e1) (by simpa using e2)
  have hb : Rows.uptoBulkAll ds ≤ 1048576 := by simpa [Rows.uptoSmall] using hk
  refine (law_calls hok (vals := args) (args := argVs tys ys) g1 (hrun ys (by omega) g3)).mono ?_
  rintro e W' ⟨rfl, hos, hout, hkeep⟩
  exact ⟨_, rfl, post_law hl hm hs hT hr htb hv hW' (by rw [List.append_nil]; exact hfn ds g4) hos hout hkeep⟩
end
end Go.Proofs.YtjpeefegeobgfaaGreat.Sym
namespace Go.Proofs.YtjpeefegeobgfaaGreat.Sym
open Go
set_option linter.unusedSimpArgs false
set_option linter.unusedVariables false
noncomputable section
section
variable {P : Program} {tt : TT}
end
end
end Go.Proofs.YtjpeefegeobgfaaGreat.Sym
namespace Go.Proofs.YtjpeefegeobgfaaGreat.Sym
open Go
set_option linter.unusedSimpArgs false
set_option linter.unusedVariables false
def Ty.flatB : Ty → Bool
  | .sl _ _ => false
  | .tree _ _ => false
  | .prod a b => a.flatB && b.flatB
  | _ => true
theorem Rt.flat {S S' : Nat → Nat → Prop} {w w' : World} : ∀ (t : Ty) (x : t.den) (cs : List Value), t.flatB = true → Rt S w t x cs → Rt S' w' t x cs
  | .int _, _, _, _, h => h
  | .bool, _, _, _, h => h
  | .str, _, _, _, h => h
  | .unit, _, _, _, h => h
  | .prod a b, _, _, hf, ⟨c1, c2, e, h1, h2⟩ => by
    simp only [Ty.flatB, Bool.and_eq_true] at hf
    exact ⟨c1, c2, e, Rt.flat a _ _ hf.1 h1, Rt.flat b _ _ hf.2 h2⟩
  | .sl _ _, _, _, hf, _ => by cases hf
  | .tree _ _, _, _, hf, _ => by cases hf
noncomputable section
structure Grown (w w' : World) : Prop where
  os : w'.os = w.os
  tape : w'.tape = w.tape
  output : w'.output = w.output
  size : w.heap.size ≤ w'.heap.size
  old : ∀ k, k < w.heap.size → w'.heap[k]? = w.heap[k]?
theorem Grown.cell {w w' : World} (g : Grown w w') {b o : Nat} (hb : b < w.heap.size) : w'.cell? ⟨b, o, none⟩ = w.cell? ⟨b, o, none⟩ := by
  simp [World.cell?, g.old b hb]
section
variable {F : Fra} {G : Gh} {w w' : World}
def Gh.owned (G : Gh) (i : Nat) (o : Option Nat) : Gh := ⟨G.S, G.mu, fun j => if j = i then o.map (·, 0) else G.ow j⟩
variable {G' : Gh}
def OwnsTo (G' H : Gh) (l : List Nat) : Prop := ∀ j ∈ l, j ≠ 0 ∧ ∀ b n, G'.ow j = some (b, n) → H.ow j = some (b, 0)
theorem OwnsTo.l {H : Gh} {l l' : List Nat} (h : OwnsTo G' H (l ++ l')) : OwnsTo G' H l := fun j hj => h j (List.mem_append_left _ hj)
theorem OwnsTo.r {H : Gh} {l l' : List Nat} (h : OwnsTo G' H (l ++ l')) : OwnsTo G' H l' := fun j hj => h j (List.mem_append_right _ hj)
end
end
end Go.Proofs.YtjpeefegeobgfaaGreat.Sym
namespace Go.Proofs.YtjpeefegeobgfaaGreat.Sym
open Go
set_option linter.unusedSimpArgs false
set_option linter.unusedVariables false
noncomputable section
def spOver (lo : Nat) (zs xs : List Int) : List Int := (zs.drop lo).take xs.length ++ xs.drop (zs.length - lo)
def C.over (i : Nat) (zs : List Int) : C → C
  | .lst e t xs own => .lst e t xs (bif own == i then 0 else own)
  | .ex e t lo xs a b => bif !(a == i) && !(b == i) then .ex e t lo xs a b else
      (if h : t = .int .u8 then (bif (a == i) && (b == i) then .ex e (.int .u8) lo (spOver lo zs (h ▸ xs : List (Ty.int .u8).den)) a b
        else bif Nat.beq lo 0 then .ex e (.int .u8) zs.length (List.drop zs.length (h ▸ xs : List (Ty.int .u8).den)) a b else .top) else .top)
  | .eel t k x a b => bif !(a == i) && !(b == i) then .eel t k x a b else .top
  | c => c
def C.longs (i : Nat) : C → List Nat
  | .ex _ _ _ xs a b => bif (!(a == i) && !(b == i)) || ((a == i) && (b == i)) then [] else [xs.length]
  | _ => []
def spT (x : Int) : Int := spXor .u8 x 90
theorem spOver_length (lo : Nat) (zs xs : List Int) : (spOver lo zs xs).length = xs.length := by simp [spOver]; omega
theorem spOver_get (lo : Nat) (zs xs : List Int) (k : Nat) (x : Int) (h : (spOver lo zs xs)[k]? = some x) : (lo + k < zs.length ∧ zs[lo + k]? = some x) ∨ (zs.length ≤ lo + k ∧ xs[k]? = some x) := by
  have hk : k < xs.length := by rw [← spOver_length lo zs xs]; exact (List.getElem?_eq_some_iff.1 h).1
  unfold spOver at h
  rw [List.getElem?_append] at h
  split at h
  · rename_i hlt
    simp at hlt
    rw [List.getElem?_take, if_pos hk, List.getElem?_drop] at h
    exact .inl ⟨by omega, h⟩
  · rename_i hlt
    simp at hlt
    rw [List.getElem?_drop] at h
    refine .inr ⟨by omega, ?_⟩
    rw [← h]
    congr 1
    simp
    omega
theorem Rel.over {F : Fra} {G : Gh} {A : AS} {ts : Array Value} {cst : List (Array Value)} {w w' : World} (R : Rel F G A ts cst w) {b i : Nat} {zs : List Int} {cur cur' : Array Value} {el : TypeId}
    (ho : G.ow i = some (b, 0)) (hwr : Wrote w w' b) (hh : w.heap[b]? = some (.cells cur el (0, 0))) (hh' : w'.heap[b]? = some (.cells cur' el (0, 0))) (hsz : cur'.size = cur.size)
    (hlow : ∀ (k : Nat) (z : Int), zs[k]? = some z → cur'[k]? = some (Value.int .u8 z) ∧ inR .u8 z) (hhigh : ∀ q : Nat, zs.length ≤ q → cur'[q]? = cur[q]?) (hg : allGe zs.length (A.coll (C.longs i)) = true) : Rel F G (A.map (C.over i zs)) ts cst w' := by
  have R0 := R
  rw [← AS.upto_eq (allGe_splits _) hg] at R0
  have e : (A.map (C.upto (C.longs i) (allGe zs.length))).map (C.over i zs) = A.map (C.over i zs) := by rw [AS.upto_eq (allGe_splits _) hg]
  -- by cells
  have hk := (Goes.exWrote R.gh ho hwr).kept
  have key : ∀ c v, Rc G w c v → allGe zs.length (c.longs i) = true → Rc G w' (c.over i zs) v := by
    intro c v hc hl
    have hcell := hc.cell
    have go := Goes.exWrote R.gh ho hwr
    cases c with
    | lst e t xs own =>
      have h0 := hc.beyond R.gh ho hwr hh hh' hsz (fun t2 lo2 xs2 i2 j2 cap2 hform _ => by rcases hform with ⟨h, _⟩ | ⟨_, h⟩ <;> cases h)
      simp only [C.over]
      obtain ⟨A', cap, e0, h1, h2, h3, h4⟩ := h0
      refine ⟨A', cap, e0, h1, h2, h3, ?_⟩
      cases hb : own == i with
      | true => exact .inl rfl
      | false => exact h4
    | ex e t lo xs a b' =>
      simp only [C.over]
      cases hn : !(a == i) && !(b' == i) with
      | true =>
        simp only [cond_true]
        simp only [Bool.and_eq_true, Bool.not_eq_true', beq_eq_false_iff_ne] at hn
        exact hc.goes go (fun _ e => by cases e) (fun j e => by cases e; simp [C.hasOwn, hn.1, hn.2])
      | false =>
        simp only [cond_false]
        split
        · rename_i ht
          subst ht
          simp only
          cases hy : (a == i) && (b' == i) with
          | true =>
            simp only [cond_true]
            simp only [Bool.and_eq_true, beq_iff_eq] at hy
            obtain ⟨rfl, rfl⟩ := hy
            have hlen := spOver_length lo zs xs
            rcases hc with ⟨rfl, rfl, e0⟩ | ⟨bl, cap, e0, ⟨n1, n2, ho2⟩, cu, el2, hb2, h1, h2, h3, h4⟩
            · exact .inl ⟨rfl, List.eq_nil_of_length_eq_zero hlen, e0⟩
            · have hbb : bl = b := by rcases ho2 with h | h <;> (rw [ho] at h; cases h; rfl)
              subst hbb
              rw [hh] at hb2; cases hb2
              have hlen' : List.length (α := (Ty.int .u8).den) (spOver lo zs xs) = xs.length := hlen
              refine .inr ⟨bl, cap, by rw [hlen']; exact e0, ⟨n1, n2, ho2⟩, cur', el, hh', hsz.trans h1, by rw [hlen']; exact h2, h3, fun k x hx => ?_⟩
              rcases spOver_get lo zs xs k x hx with ⟨hlt, hz⟩ | ⟨hge, hxk⟩
              · obtain ⟨g1, g2⟩ := hlow _ _ hz
                refine ⟨[.int .u8 x], ⟨rfl, g2⟩, fun q u hq => ?_⟩
                cases q with
                | succ q => simp at hq
                | zero =>
                  simp only [List.getElem?_cons_zero, Option.some.injEq] at hq
                  subst hq
                  simpa [Ty.size] using g1
              · obtain ⟨c, hcr, hu⟩ := h4 k x hxk
                refine ⟨c, Rt.kept hk _ _ _ hcr, fun q u hq => ?_⟩
                have hqs : q < 1 := by have := Rt.len _ _ _ hcr; rw [show (Ty.int .u8).size = 1 from rfl] at this; rw [← this]; exact (List.getElem?_eq_some_iff.1 hq).1
                have := hu q u hq
                rw [hhigh _ (by simp only [Ty.size]; omega)]
                exact this
          | false =>
            simp only [cond_false]
            simp only [C.longs, hn, hy, Bool.or_self, cond_false, allGe, Bool.and_true, decide_eq_true_eq] at hl
            cases hlo : Nat.beq lo 0 with
            | false => exact hcell
            | true =>
              simp only [cond_true]
              have hlo := Nat.eq_of_beq_eq_true hlo
              subst hlo
              rcases hc with ⟨_, rfl, e0⟩ | ⟨bl, cap, e0, ⟨n1, n2, ho2⟩, cu, el2, hb2, h1, h2, h3, h4⟩
              · have : zs = [] := List.eq_nil_of_length_eq_zero (by simpa using hl)
                subst this
                exact .inl ⟨rfl, rfl, e0⟩
              · have hdl : zs.length + (List.drop zs.length xs).length = 0 + xs.length := by simp; omega
                by_cases hbb : bl = b
                · subst hbb
                  rw [hh] at hb2; cases hb2
                  refine .inr ⟨bl, cap, by rw [hdl]; exact e0, ⟨n1, n2, ho2⟩, cur', el, hh', hsz.trans h1, by rw [hdl]; exact h2, h3, fun k x hx => ?_⟩
                  rw [List.getElem?_drop] at hx
                  obtain ⟨c, hcr, hu⟩ := h4 _ x hx
                  refine ⟨c, Rt.kept hk _ _ _ hcr, fun q u hq => ?_⟩
                  have := hu q u hq
                  rw [hhigh _ (by simp only [Ty.size]; omega)]
                  rw [Nat.zero_add] at this
                  exact this
                · refine .inr ⟨bl, cap, by rw [hdl]; exact e0, ⟨n1, n2, ho2⟩, cu, el2, (hwr.other bl hbb).trans hb2, h1, by rw [hdl]; exact h2, h3, fun k x hx => ?_⟩
                  rw [List.getElem?_drop] at hx
                  obtain ⟨c, hcr, hu⟩ := h4 _ x hx
                  refine ⟨c, Rt.kept hk _ _ _ hcr, fun q u hq => ?_⟩
                  have := hu q u hq
                  rw [Nat.zero_add] at this
                  exact this
        · exact hcell
    | eel t' k' x a b' =>
      simp only [C.over]
      cases hn : !(a == i) && !(b' == i) with
      | true =>
        simp only [cond_true]
        simp only [Bool.and_eq_true, Bool.not_eq_true', beq_eq_false_iff_ne] at hn
        exact hc.goes go (fun _ e => by cases e) (fun j e => by cases e; simp [C.hasOwn, hn.1, hn.2])
      | false => exact hcell
    | ro t x => exact hc.goes go (fun _ e => by cases e) (fun _ _ => rfl)
    | fn f m caps => exact hc.goes go (fun _ e => by cases e) (fun _ _ => rfl)
    | ifc T t x => exact hc.goes go (fun _ e => by cases e) (fun _ _ => rfl)
    | pin v0 t x => exact hc.goes go (fun _ e => by cases e) (fun _ _ => rfl)
    | _ => exact hc
  have R1 := R.exWrote ho hwr (f := fun c => if allGe zs.length (c.longs i) = true then c.over i zs else .top) (fun c v hc => by
    split
    · rename_i h; exact key c v hc h
    · exact hc.cell) (fun x => rfl)
  have e2 : A.map (fun c => if allGe zs.length (c.longs i) = true then c.over i zs else .top) = A.map (C.over i zs) := by
    rw [← e]
    conv => lhs; rw [← AS.upto_eq (allGe_splits _) hg]
    obtain ⟨tm, stk, ob⟩ := A
    have hf : ∀ c : C, (if allGe zs.length ((c.upto (C.longs i) (allGe zs.length)).longs i) = true then (c.upto (C.longs i) (allGe zs.length)).over i zs else .top) = (c.upto (C.longs i) (allGe zs.length)).over i zs := by
      intro c
      unfold C.upto
      cases h : allGe zs.length (c.longs i) with
      | true => simp [h]
      | false => simp [C.longs, allGe, C.over]
    have hcs : ∀ cs : List C, (cs.map (C.upto (C.longs i) (allGe zs.length))).map (fun c => if allGe zs.length (c.longs i) = true then c.over i zs else .top) = (cs.map (C.upto (C.longs i) (allGe zs.length))).map (C.over i zs) := by
      intro cs
      rw [List.map_map, List.map_map]
      exact List.map_congr_left fun c _ => hf c
    have hv : ∀ v : V, (v.map (C.upto (C.longs i) (allGe zs.length))).map (fun c => if allGe zs.length (c.longs i) = true then c.over i zs else .top) = (v.map (C.upto (C.longs i) (allGe zs.length))).map (C.over i zs) := by
      intro v
      cases v with
      | one c => simp only [V.map]; rw [hf c]
      | agg cs => simp only [V.map]; rw [hcs cs]
      | tup ps =>
        simp only [V.map, List.map_map]
        congr 1
        refine List.map_congr_left fun p _ => ?_
        simp only [Function.comp_apply]
        rw [hcs p.2]
      | any => rfl
    simp only [AS.map, List.map_map, AS.mk.injEq]
    refine ⟨List.map_congr_left fun v _ => hv v, List.map_congr_left fun l _ => ?_, List.map_congr_left fun o _ => ?_⟩
    · simp only [Function.comp_apply, List.map_map]
      exact List.map_congr_left fun v _ => hv v
    · cases o with
      | none => rfl
      | some cs => simp only [Function.comp_apply, Option.map_some]; rw [hcs cs]
  rw [e2] at R1
  exact R1
end
end Go.Proofs.YtjpeefegeobgfaaGreat.Sym
namespace Go.Proofs.YtjpeefegeobgfaaGreat.Sym
open Go
set_option linter.unusedSimpArgs false
set_option linter.unusedVariables false
noncomputable section
abbrev u8T : Ty := .int .u8
abbrev anys (n : Nat) : List V := List.replicate n .any
theorem Grown.refl (w : World) : Grown w w := ⟨rfl, rfl, rfl, Nat.le_refl _, fun _ _ => rfl⟩
end
end Go.Proofs.YtjpeefegeobgfaaGreat.Sym
namespace Go.Proofs.YtjpeefegeobgfaaGreat.Sym
open Go
set_option linter.unusedSimpArgs false
set_option linter.unusedVariables false
noncomputable section
abbrev loTurned_5 : Lo := ⟨⟨[.one (.hol (.sl 5 (Ty.int IntKind.u8))), .one (.hol (.sl 5 (Ty.int IntKind.u8))), .any, .any, .any, .one (.hol (.int IntKind.i64)), .any, .any, .any, .any, .any, .any, .any, .any, .any, .any, .any, .any, .any, .any, .any, .any, .any, .any, .any, .any, .any], []⟩, [(.ret, ⟨[.any, .any, .any, .any, .one (.hol .bool), .any, .any, .any, .any, .any, .any, .any, .any, .any, .any, .any, .any, .any, .any, .any, .any, .any, .any, .any, .any, .any, .any], []⟩), (.exit 0, ⟨[.any, .any, .any, .any, .any, .any, .any, .any, .any, .any, .any, .any, .any, .any, .any, .any, .any, .any, .any, .any, .any, .any, .any, .any, .any, .any, .any], []⟩)]⟩
-- FTurned_5 : loTurned_5.st.den → Tr (DenX loTurned_5.xs) | ((h2, (h3, (h4, ()))), ())
def FTurned_5 (d : loTurned_5.st.den) : Tr (DenX loTurned_5.xs) :=
  .ite (decide (0 ≤ d.1.2.2.1) && decide (d.1.1.length = d.1.2.1.length)) (.ite (decide (d.1.1.drop d.1.2.2.1.toNat = (List.map spT d.1.2.1).drop d.1.2.2.1.toNat)) (.ret (.pan (.ret ((), ((), ()))))) (.ret (.ret ((), ((false, ()), ()))))) .no
--@start InApart stApart
--@over 7 1 1 => 1 15
--@over 14 3 3 => 3 19
abbrev InApart : Type := List Int × (List Int × (List Int × Unit))
def stApart (d : InApart) : AS := ⟨[.one (.ex 5 u8T 0 d.1 1 1), .one (.ex 5 u8T 0 d.2.1 3 3), .one (.lst 5 u8T d.2.2.1 0)] ++ anys 94, [], []⟩
def spMk (c : Nat) : List Int := (List.range 80).map fun i => ((i + c : Nat) : Int)
abbrev loApart_7 : Lo := ⟨⟨[.one (.exl 5 (Ty.int IntKind.u8) 1 1), .one (.exl 5 (Ty.int IntKind.u8) 3 3), .one (.hol (.sl 5 (Ty.int IntKind.u8))), .any, .any, .any, .any, .one (.exl 5 (Ty.int IntKind.u8) 1 15), .one (.hol (.int IntKind.i64)), .any, .any, .any, .any, .any, .any, .any, .any, .any, .any, .any, .any, .any, .any, .any, .any, .any, .any, .any, .any, .any, .any, .any, .any, .any, .any, .any, .any, .any, .any, .any, .any, .any, .any, .any, .any, .any, .any, .any, .any, .any, .any, .any, .any, .any, .any, .any, .any, .any, .any, .any, .any, .any, .any, .any, .any, .any, .any, .any, .any, .any, .any, .any, .any, .any, .any, .any, .any, .any, .any, .any, .any, .any, .any, .any, .any, .any, .any, .any, .any, .any, .any, .any, .any, .any, .any, .any, .any], []⟩, [(.exit 0, ⟨[.one (.exl 5 (Ty.int IntKind.u8) 1 1), .one (.exl 5 (Ty.int IntKind.u8) 3 3), .one (.hol (.sl 5 (Ty.int IntKind.u8))), .any, .any, .any, .any, .one (.exl 5 (Ty.int IntKind.u8) 1 15), .any, .any, .any, .any, .any, .any, .any, .any, .any, .any, .any, .any, .any, .any, .any, .any, .any, .any, .any, .any, .any, .any, .any, .any, .any, .any, .any, .any, .any, .any, .any, .any, .any, .any, .any, .any, .any, .any, .any, .any, .any, .any, .any, .any, .any, .any, .any, .any, .any, .any, .any, .any, .any, .any, .any, .any, .any, .any, .any, .any, .any, .any, .any, .any, .any, .any, .any, .any, .any, .any, .any, .any, .any, .any, .any, .any, .any, .any, .any, .any, .any, .any, .any, .any, .any, .any, .any, .any, .any], []⟩)]⟩
-- FApart_7 : loApart_7.st.den → Tr (DenX loApart_7.xs) | ((h8, (h9, (h10, (h11, (h12, ()))))), ())
abbrev loApart_14 : Lo := ⟨⟨[.one (.exl 5 (Ty.int IntKind.u8) 1 1), .one (.exl 5 (Ty.int IntKind.u8) 3 3), .one (.hol (.sl 5 (Ty.int IntKind.u8))), .any, .any, .any, .any, .one (.exl 5 (Ty.int IntKind.u8) 1 15), .any, .one (.exl 5 (Ty.int IntKind.u8) 3 19), .one (.hol (.int IntKind.i64)), .any, .any, .any, .any, .any, .any, .any, .any, .any, .any, .any, .any, .any, .any, .any, .any, .any, .any, .any, .any, .any, .any, .any, .any, .any, .any, .any, .any, .any, .any, .any, .any, .any, .any, .any, .any, .any, .any, .any, .any, .any, .any, .any, .any, .any, .any, .any, .any, .any, .any, .any, .any, .any, .any, .any, .any, .any, .any, .any, .any, .any, .any, .any, .any, .any, .any, .any, .any, .any, .any, .any, .any, .any, .any, .any, .any, .any, .any, .any, .any, .any, .any, .any, .any, .any, .any], []⟩, [(.exit 2, ⟨[.one (.exl 5 (Ty.int IntKind.u8) 1 1), .one (.exl 5 (Ty.int IntKind.u8) 3 3), .one (.hol (.sl 5 (Ty.int IntKind.u8))), .any, .any, .any, .any, .one (.exl 5 (Ty.int IntKind.u8) 1 15), .any, .one (.exl 5 (Ty.int IntKind.u8) 3 19), .any, .any, .any, .any, .any, .any, .any, .any, .any, .any, .any, .any, .any, .any, .any, .any, .any, .any, .any, .any, .any, .any, .any, .any, .any, .any, .any, .any, .any, .any, .any, .any, .any, .any, .any, .any, .any, .any, .any, .any, .any, .any, .any, .any, .any, .any, .any, .any, .any, .any, .any, .any, .any, .any, .any, .any, .any, .any, .any, .any, .any, .any, .any, .any, .any, .any, .any, .any, .any, .any, .any, .any, .any, .any, .any, .any, .any, .any, .any, .any, .any, .any, .any, .any, .any, .any, .any], []⟩)]⟩
-- FApart_14 : loApart_14.st.den → Tr (DenX loApart_14.xs) | ((h32, (h33, (h34, (h35, (h36, (h37, ())))))), ())
abbrev loApart_19 : Lo := ⟨⟨[.one (.exl 5 (Ty.int IntKind.u8) 1 1), .one (.exl 5 (Ty.int IntKind.u8) 3 3), .one (.hol (.sl 5 (Ty.int IntKind.u8))), .any, .any, .any, .any, .one (.exl 5 (Ty.int IntKind.u8) 1 15), .any, .one (.ext 5 (Ty.int IntKind.u8) 3 19), .any, .one (.hol (.int IntKind.i64)), .any, .any, .any, .any, .any, .any, .any, .any, .any, .any, .any, .any, .any, .any, .any, .any, .any, .any, .any, .any, .any, .any, .any, .any, .any, .any, .any, .any, .any, .any, .any, .any, .any, .any, .any, .any, .any, .any, .any, .any, .any, .any, .any, .any, .any, .any, .any, .any, .any, .any, .any, .any, .any, .any, .any, .any, .any, .any, .any, .any, .any, .any, .any, .any, .any, .any, .any, .any, .any, .any, .any, .any, .any, .any, .any, .any, .any, .any, .any, .any, .any, .any, .any, .any, .any], []⟩, [(.ret, ⟨[.any, .any, .any, .any, .any, .any, .one (.hol .bool), .any, .any, .any, .any, .any, .any, .any, .any, .any, .any, .any, .any, .any, .any, .any, .any, .any, .any, .any, .any, .any, .any, .any, .any, .any, .any, .any, .any, .any, .any, .any, .any, .any, .any, .any, .any, .any, .any, .any, .any, .any, .any, .any, .any, .any, .any, .any, .any, .any, .any, .any, .any, .any, .any, .any, .any, .any, .any, .any, .any, .any, .any, .any, .any, .any, .any, .any, .any, .any, .any, .any, .any, .any, .any, .any, .any, .any, .any, .any, .any, .any, .any, .any, .any, .any, .any, .any, .any, .any, .any], []⟩), (.exit 4, ⟨[.one (.exl 5 (Ty.int IntKind.u8) 1 1), .one (.exl 5 (Ty.int IntKind.u8) 3 3), .one (.hol (.sl 5 (Ty.int IntKind.u8))), .any, .any, .any, .any, .any, .any, .any, .any, .any, .any, .any, .any, .any, .any, .any, .any, .any, .any, .any, .any, .any, .any, .any, .any, .any, .any, .any, .any, .any, .any, .any, .any, .any, .any, .any, .any, .any, .any, .any, .any, .any, .any, .any, .any, .any, .any, .any, .any, .any, .any, .any, .any, .any, .any, .any, .any, .any, .any, .any, .any, .any, .any, .any, .any, .any, .any, .any, .any, .any, .any, .any, .any, .any, .any, .any, .any, .any, .any, .any, .any, .any, .any, .any, .any, .any, .any, .any, .any, .any, .any, .any, .any, .any, .any], []⟩)]⟩
-- FApart_19 : loApart_19.st.den → Tr (DenX loApart_19.xs) | ((h54, (h55, (h56, (h57, ((h58, h59), (h60, ())))))), ())
def FApart_7 (d : loApart_7.st.den) : Tr (DenX loApart_7.xs) :=
  .ite (decide (d.1.2.2.2.2.1 = 0) && (decide (d.1.2.2.2.1.length ≤ 4294967000) && decide (d.1.1.length ≤ d.1.2.2.2.1.length))) (.ret (.ret ((), ((d.1.1, d.1.2.1, d.1.2.2.1, d.1.2.2.2.1 ++ spMk 1, ()), ())))) .no
def FApart_14 (d : loApart_14.st.den) : Tr (DenX loApart_14.xs) :=
  .ite (decide (d.1.2.2.2.2.2.1 = 0) && (decide (d.1.2.2.2.2.1.length ≤ 4294967000) && decide (d.1.2.1.length ≤ d.1.2.2.2.2.1.length))) (.ret (.ret ((), ((d.1.1, d.1.2.1, d.1.2.2.1, d.1.2.2.2.1, d.1.2.2.2.2.1 ++ spMk 101, ()), ())))) .no
def FApart_19 (d : loApart_19.st.den) : Tr (DenX loApart_19.xs) :=
  .ite (decide (d.1.2.2.2.2.2.1 = 0) && (decide (List.drop d.1.1.length d.1.2.2.2.1 = spMk 1) && (decide (d.1.2.2.2.2.1.1 = d.1.2.1.length) && decide (d.1.2.2.2.2.1.2 = spMk 101)))) (.ret (.pan (.ret ((), ((d.1.1, d.1.2.1, d.1.2.2.1, ()), ()))))) .no
end
end Go.Proofs.YtjpeefegeobgfaaGreat.Sym
namespace Go.Proofs.YtjpeefegeobgfaaGreat.Sym
open Go
set_option linter.unusedSimpArgs false
set_option linter.unusedVariables false
noncomputable section
theorem append_loop {R : Type} (it : Nat → List Int → List Int → Int → Option R) (out : List Int → Option R)
    (h : ∀ n b o i, it (n + 1) b o i = bif decide (i < (b.length : Int)) then bif decide (0 ≤ i) && decide (i < (b.length : Int)) then bif decide (o.length + [b.getD i.toNat 0].length ≤ 4294967296) then it n b (o ++ [b.getD i.toNat 0]) (IntKind.i64.wrap (i + 1)) else none else none else out o)
    (b : List Int) (hb : b.length ≤ maxLen) : ∀ (k : Nat) (o : List Int) (i : Nat), i ≤ b.length → b.length < i + k → o.length + (b.length - i) ≤ 4294967296 → it k b o i = out (o ++ b.drop i) := by
  intro k
  induction k with
  | zero => intro o i h1 h2; omega
  | succ k ih =>
    intro o i h1 h2 h3
    rw [h]
    by_cases hi : i < b.length
    · rw [wrap_succ hi hb, ih _ (i + 1) hi (by omega) (by simp; omega), List.drop_eq_getElem_cons hi]
      simp only [Int.toNat_natCast, getD_lt hi]
      have h4 : o.length + 1 ≤ 4294967296 := by omega
      simp [hi, h4]
    · rw [List.drop_of_length_le (by omega)]
      simp [hi]
abbrev ioCopy : Io := ⟨[dL], [], [], [dO], none⟩
def FCopy (d : ioCopy.In) : Tr ioCopy.Res := .ite (decide (d.1.1.length ≤ 4294967296)) (.ret (.ret ((d.1.1, ()), ()))) .no
abbrev csCopy : List (Nat × Hc) := []
def hdCopy : Hd := hdT csCopy
abbrev loCopy_4 : Lo := ⟨⟨[.one (.hol (.sl 5 (Ty.int IntKind.u8))), .any, .any, .one (.onl 5 (Ty.int IntKind.u8) 7), .one (.hol (.int IntKind.i64)), .any, .any, .any, .any, .any, .any, .any, .any, .any, .any, .any, .any, .any, .any, .any], []⟩, [(.exit 0, ⟨[.any, .any, .any, .one (.onl 5 (Ty.int IntKind.u8) 7), .any, .any, .any, .any, .any, .any, .any, .any, .any, .any, .any, .any, .any, .any, .any, .any], []⟩)]⟩
-- FCopy_4 : loCopy_4.st.den → Tr (DenX loCopy_4.xs) | ((h1, (h2, (h3, ()))), ())
def FCopy_4 (d : loCopy_4.st.den) : Tr (DenX loCopy_4.xs) :=
  .ite (decide (d.1.2.2.1 = 0) && decide (d.1.2.1.length + d.1.1.length ≤ 4294967296)) (.ret (.ret ((), ((d.1.2.1 ++ d.1.1, ()), ())))) .no
def lpCopy : Lp := lpT [(4, loHd loCopy_4 FCopy_4)]
def stepCopy_4 {R : Type} (h1 : List Int) (h2 : List Int) (h3 : Int) (next : List Int → List Int → Int → Option R) (out : DenX loCopy_4.xs → Option R) : Option R := bif decide (h3 < (↑h1.length : Int)) then bif decide (0 ≤ h3) && decide (h3 < (↑h1.length : Int)) then bif decide (h2.length + [h1.getD h3.toNat 0].length ≤ 4294967296) then next (h1) (h2 ++ [h1.getD h3.toNat 0]) (IntKind.i64.wrap (h3 + 1)) else none else none else out (.ret ((), ((h2, ()), ())))
def itCopy_4 (n : Nat) (h1 : List Int) (h2 : List Int) (h3 : Int) : Option (DenX loCopy_4.xs) := lpN tt hdCopy dr lpCopy 0 Go.Proofs.Tryz.f46 (topL Go.Proofs.Tryz.f46 0) n (loCopy_4.st.mk' ((h1, (h2, (h3, ()))), ())) (decX loCopy_4.xs)
theorem slCopy_4 (n : Nat) (h1 : List Int) (h2 : List Int) (h3 : Int) : itCopy_4 (n + 1) h1 h2 h3 = stepCopy_4 h1 h2 h3 (itCopy_4 n) some := by kernel_rfl
def bodyCopy (a0 : List Int) : Option ioCopy.Res := (FCopy_4 ((a0, ([], (0, ()))), ())).run fun y => match y with | .ret ((), ((x8, ()), ())) => (some (Out.ret ((x8, ()), ())))
theorem runCopy (a0 : List Int) : Io.run tt hdCopy dr lpCopy ioCopy Go.Proofs.Tryz.f46 ((a0, ()), ()) = bodyCopy a0 := by kernel_rfl
theorem okCopy : HcOk prog 46 (ioHd ioCopy FCopy) := by
  refine fn_sound (n := 400) hm (cs := csCopy) HcsOk.nil (lp := lpCopy) (fn := Go.Proofs.Tryz.f46) (by kernel_rfl) (by kernel_rfl) (by kernel_rfl) ioCopy
    (.step (h0 := loHd loCopy_4 FCopy_4) (by kernel_rfl) (loop_sound (n := 400) hm (cs := csCopy) HcsOk.nil (lp := lpCopy) (fn := Go.Proofs.Tryz.f46) (.done (by kernel_rfl)) loCopy_4 FCopy_4 ?_) (.done (by kernel_rfl))) FCopy ?_
  · rintro ⟨⟨b, o, i, ⟨⟩⟩, ⟨⟩⟩ y hw hy
    obtain ⟨hg, hy⟩ := Tr.guard hy
    simp only [Bool.and_eq_true, decide_eq_true_eq] at hg
    obtain ⟨rfl, hl⟩ := hg
    refine ⟨b.length + 1, (append_loop (fun k b o i => itCopy_4 k b o i) (fun o => some (.ret ((), ((o, ()), ())))) (fun n b o i => slCopy_4 n b o i) b hw.1.1.1 _ o 0 (by omega) (by omega) (by omega)).trans ?_⟩
    rw [← hy]; rfl
  · rintro ⟨⟨b, ⟨⟩⟩, ⟨⟩⟩ out hw ho
    obtain ⟨hg, ho⟩ := Tr.guard ho
    cases ho
    refine (runCopy b).trans ?_
    simp only [decide_eq_true_eq] at hg
    unfold bodyCopy FCopy_4
    simp [Tr.run_ite, Tr.run_ret, hg]
abbrev ioCat : Io := ⟨[dL, dL], [], [], [dO], none⟩
def FCat (d : ioCat.In) : Tr ioCat.Res := .ite (decide (d.1.1.length + d.1.2.1.length ≤ 4294967296)) (.ret (.ret ((d.1.1 ++ d.1.2.1, ()), ()))) .no
abbrev csCat : List (Nat × Hc) := [(46, ioHd ioCopy FCopy)]
def hdCat : Hd := hdT csCat
abbrev loCat_4 : Lo := ⟨⟨[.any, .one (.hol (.sl 5 (Ty.int IntKind.u8))), .any, .any, .any, .one (.onl 5 (Ty.int IntKind.u8) 11), .one (.hol (.int IntKind.i64)), .any, .any, .any, .any, .any, .any, .any, .any, .any, .any, .any, .any, .any, .any, .any, .any], []⟩, [(.exit 0, ⟨[.any, .any, .any, .any, .any, .one (.onl 5 (Ty.int IntKind.u8) 11), .any, .any, .any, .any, .any, .any, .any, .any, .any, .any, .any, .any, .any, .any, .any, .any, .any], []⟩)]⟩
-- FCat_4 : loCat_4.st.den → Tr (DenX loCat_4.xs) | ((h2, (h3, (h4, ()))), ())
def FCat_4 (d : loCat_4.st.den) : Tr (DenX loCat_4.xs) :=
  .ite (decide (d.1.2.2.1 = 0) && decide (d.1.2.1.length + d.1.1.length ≤ 4294967296)) (.ret (.ret ((), ((d.1.2.1 ++ d.1.1, ()), ())))) .no
def lpCat : Lp := lpT [(4, loHd loCat_4 FCat_4)]
def stepCat_4 {R : Type} (h2 : List Int) (h3 : List Int) (h4 : Int) (next : List Int → List Int → Int → Option R) (out : DenX loCat_4.xs → Option R) : Option R := bif decide (h4 < (↑h2.length : Int)) then bif decide (0 ≤ h4) && decide (h4 < (↑h2.length : Int)) then bif decide (h3.length + [h2.getD h4.toNat 0].length ≤ 4294967296) then next (h2) (h3 ++ [h2.getD h4.toNat 0]) (IntKind.i64.wrap (h4 + 1)) else none else none else out (.ret ((), ((h3, ()), ())))
def itCat_4 (n : Nat) (h2 : List Int) (h3 : List Int) (h4 : Int) : Option (DenX loCat_4.xs) := lpN tt hdCat dr lpCat 0 Go.Proofs.Tryz.f189 (topL Go.Proofs.Tryz.f189 0) n (loCat_4.st.mk' ((h2, (h3, (h4, ()))), ())) (decX loCat_4.xs)
theorem slCat_4 (n : Nat) (h2 : List Int) (h3 : List Int) (h4 : Int) : itCat_4 (n + 1) h2 h3 h4 = stepCat_4 h2 h3 h4 (itCat_4 n) some := by kernel_rfl
def bodyCat (a0 : List Int) (a1 : List Int) : Option ioCat.Res := bif decide (a0.length ≤ 4294967296) then (FCat_4 ((a1, (a0, (0, ()))), ())).run fun y => match y with | .ret ((), ((x9, ()), ())) => (some (Out.ret ((x9, ()), ()))) else none
theorem runCat (a0 : List Int) (a1 : List Int) : Io.run tt hdCat dr lpCat ioCat Go.Proofs.Tryz.f189 ((a0, a1, ()), ()) = bodyCat a0 a1 := by kernel_rfl
theorem okCat : HcOk prog 189 (ioHd ioCat FCat) := by
  refine fn_sound (n := 400) hm (cs := csCat) (.cons okCopy .nil) (lp := lpCat) (fn := Go.Proofs.Tryz.f189) (by kernel_rfl) (by kernel_rfl) (by kernel_rfl) ioCat
    (.step (h0 := loHd loCat_4 FCat_4) (by kernel_rfl) (loop_sound (n := 400) hm (cs := csCat) (.cons okCopy .nil) (lp := lpCat) (fn := Go.Proofs.Tryz.f189) (.done (by kernel_rfl)) loCat_4 FCat_4 ?_) (.done (by kernel_rfl))) FCat ?_
  · rintro ⟨⟨b, o, i, ⟨⟩⟩, ⟨⟩⟩ y hw hy
    obtain ⟨hg, hy⟩ := Tr.guard hy
    simp only [Bool.and_eq_true, decide_eq_true_eq] at hg
    obtain ⟨rfl, hl⟩ := hg
    refine ⟨b.length + 1, (append_loop (fun k b o i => itCat_4 k b o i) (fun o => some (.ret ((), ((o, ()), ())))) (fun n b o i => slCat_4 n b o i) b hw.1.1.1 _ o 0 (by omega) (by omega) (by omega)).trans ?_⟩
    rw [← hy]; rfl
  · rintro ⟨⟨a, b, ⟨⟩⟩, ⟨⟩⟩ out hw ho
    obtain ⟨hg, ho⟩ := Tr.guard ho
    cases ho
    refine (runCat a b).trans ?_
    simp only [decide_eq_true_eq] at hg
    have hg : a.length + b.length ≤ 4294967296 := hg
    have h1 : a.length ≤ 4294967296 := by omega
    unfold bodyCat FCat_4
    simp [Tr.run_ite, Tr.run_ret, hg, h1]
end
end Go.Proofs.YtjpeefegeobgfaaGreat.Sym
namespace Go.Proofs.YtjpeefegeobgfaaGreat.Sym
open Go
set_option linter.unusedSimpArgs false
set_option linter.unusedVariables false
noncomputable section
abbrev ioPiece : Io := ⟨[dL, dI, dI], [], [], [dO], none⟩
def FPiece (d : ioPiece.In) : Tr ioPiece.Res := .ite (decide (d.1.1.length ≤ 4294967296)) (.ret (.ret ((((d.1.1.take d.1.2.2.1.toNat).drop d.1.2.1.toNat), ()), ()))) .no
abbrev csPiece : List (Nat × Hc) := []
def hdPiece : Hd := hdT csPiece
abbrev loPiece_6 : Lo := ⟨⟨[.one (.hol (.sl 5 (Ty.int IntKind.u8))), .any, .one (.hol (.int IntKind.i64)), .any, .any, .any, .any, .one (.onl 5 (Ty.int IntKind.u8) 15), .one (.hol (.int IntKind.i64)), .any, .any, .any, .any, .any, .any, .any, .any, .any, .any, .any, .any, .any, .any, .any, .any, .any, .any, .any, .any, .any, .any, .any], []⟩, [(.exit 0, ⟨[.any, .any, .any, .any, .any, .any, .any, .one (.onl 5 (Ty.int IntKind.u8) 15), .any, .any, .any, .any, .any, .any, .any, .any, .any, .any, .any, .any, .any, .any, .any, .any, .any, .any, .any, .any, .any, .any, .any, .any], []⟩)]⟩
-- FPiece_6 : loPiece_6.st.den → Tr (DenX loPiece_6.xs) | ((h3, (h4, (h5, (h6, ())))), ())
def FPiece_6 (d : loPiece_6.st.den) : Tr (DenX loPiece_6.xs) :=
  .ite (decide (0 ≤ d.1.2.2.2.1) && decide (d.1.2.2.1.length + d.1.1.length ≤ 4294967296)) (.ret (.ret ((), ((d.1.2.2.1 ++ (d.1.1.take d.1.2.1.toNat).drop d.1.2.2.2.1.toNat, ()), ())))) .no
def lpPiece : Lp := lpT [(6, loHd loPiece_6 FPiece_6)]
def stepPiece_6 {R : Type} (h3 : List Int) (h4 : Int) (h5 : List Int) (h6 : Int) (next : List Int → Int → List Int → Int → Option R) (out : DenX loPiece_6.xs → Option R) : Option R := bif decide (h6 < (↑h3.length : Int)) then bif decide (h6 < h4) then bif decide (0 ≤ h6) && decide (h6 < (↑h3.length : Int)) then bif decide (h5.length + [h3.getD h6.toNat 0].length ≤ 4294967296) then next (h3) (h4) (h5 ++ [h3.getD h6.toNat 0]) (IntKind.i64.wrap (h6 + 1)) else none else none else out (.ret ((), ((h5, ()), ()))) else out (.ret ((), ((h5, ()), ())))
def itPiece_6 (n : Nat) (h3 : List Int) (h4 : Int) (h5 : List Int) (h6 : Int) : Option (DenX loPiece_6.xs) := lpN tt hdPiece dr lpPiece 0 Go.Proofs.Tryz.f29 (topL Go.Proofs.Tryz.f29 0) n (loPiece_6.st.mk' ((h3, (h4, (h5, (h6, ())))), ())) (decX loPiece_6.xs)
theorem slPiece_6 (n : Nat) (h3 : List Int) (h4 : Int) (h5 : List Int) (h6 : Int) : itPiece_6 (n + 1) h3 h4 h5 h6 = stepPiece_6 h3 h4 h5 h6 (itPiece_6 n) some := by kernel_rfl
theorem loopPiece (b : List Int) (hi : Int) (hb : b.length ≤ maxLen) : ∀ (k : Nat) (o : List Int) (i : Nat), b.length < i + k → o.length + (b.length - i) ≤ 4294967296 → 0 < k →
    itPiece_6 k b hi o i = some (.ret ((), ((o ++ (b.take hi.toNat).drop i, ()), ()))) := by
  intro k
  induction k with
  | zero => intro o i _ _ h; omega
  | succ k ih =>
    intro o i h1 h2 _
    rw [slPiece_6]
    unfold stepPiece_6
    by_cases hl : i < b.length
    · by_cases hh : (i : Int) < hi
      · rw [wrap_succ hl hb, ih _ (i + 1) (by omega) (by simp; omega) (by omega)]
        have hlt : i < (b.take hi.toNat).length := by simp; omega
        rw [List.drop_eq_getElem_cons hlt]
        simp only [Int.toNat_natCast, getD_lt hl, List.getElem_take]
        have h4 : o.length + 1 ≤ 4294967296 := by omega
        simp [hl, hh, h4]
      · rw [List.drop_of_length_le (by simp; omega)]
        simp [hl, hh]
    · rw [List.drop_of_length_le (by simp; omega)]
      simp [hl]
def bodyPiece (a0 : List Int) (a1 : Int) (a2 : Int) : Option ioPiece.Res := bif decide (a1 < 0) then (FPiece_6 ((a0, (a2, ([], (0, ())))), ())).run fun y => match y with | .ret ((), ((x13, ()), ())) => (some (Out.ret ((x13, ()), ()))) else (FPiece_6 ((a0, (a2, ([], (a1, ())))), ())).run fun y => match y with | .ret ((), ((x18, ()), ())) => (some (Out.ret ((x18, ()), ())))
theorem runPiece (a0 : List Int) (a1 : Int) (a2 : Int) : Io.run tt hdPiece dr lpPiece ioPiece Go.Proofs.Tryz.f29 ((a0, a1, a2, ()), ()) = bodyPiece a0 a1 a2 := by kernel_rfl
theorem okPiece : HcOk prog 29 (ioHd ioPiece FPiece) := by
  refine fn_sound (n := 400) hm (cs := csPiece) HcsOk.nil (lp := lpPiece) (fn := Go.Proofs.Tryz.f29) (by kernel_rfl) (by kernel_rfl) (by kernel_rfl) ioPiece
    (.step (h0 := loHd loPiece_6 FPiece_6) (by kernel_rfl) (loop_sound (n := 400) hm (cs := csPiece) HcsOk.nil (lp := lpPiece) (fn := Go.Proofs.Tryz.f29) (.done (by kernel_rfl)) loPiece_6 FPiece_6 ?_) (.done (by kernel_rfl))) FPiece ?_
  · rintro ⟨⟨b, hi, o, i, ⟨⟩⟩, ⟨⟩⟩ y hw hy
    obtain ⟨hg, hy⟩ := Tr.guard hy
    simp only [Bool.and_eq_true, decide_eq_true_eq] at hg
    obtain ⟨n, rfl⟩ := toNat_of hg.1
    refine ⟨b.length + 1, (loopPiece b hi hw.1.1.1 _ o n (by omega) (by have := hg.2; omega) (by omega)).trans ?_⟩
    rw [← hy]; rfl
  · rintro ⟨⟨(b : List Int), (lo : Int), (hi : Int), ⟨⟩⟩, ⟨⟩⟩ out hw ho
    obtain ⟨hg, ho⟩ := Tr.guard ho
    cases ho
    refine (runPiece b lo hi).trans ?_
    simp only [decide_eq_true_eq] at hg
    have hg : b.length ≤ 4294967296 := hg
    unfold bodyPiece FPiece_6
    by_cases h0 : lo < 0
    · have : lo.toNat = 0 := by omega
      simp [Tr.run_ite, Tr.run_ret, hg, h0, this]
    · have h1 : 0 ≤ lo := by omega
      simp [Tr.run_ite, Tr.run_ret, hg, h0, h1]
abbrev ioWide : Io := ⟨[dL], [], [], [dO], none⟩
def spMarks : List Int := (List.range 96).map fun i => ((i * 7 + 13 : Nat) : Int) % 256
def FWide (d : ioWide.In) : Tr ioWide.Res := .ite (decide (d.1.1.length ≤ 4294967000)) (.ret (.ret ((d.1.1 ++ spMarks, ()), ()))) .no
abbrev csWide : List (Nat × Hc) := [(46, ioHd ioCopy FCopy)]
def hdWide : Hd := hdT csWide
abbrev loWide_4 : Lo := ⟨⟨[.any, .any, .any, .one (.onl 5 (Ty.int IntKind.u8) 7), .one (.hol (.int IntKind.i64)), .any, .any, .any, .any, .any, .any, .any, .any, .any, .any, .any, .any, .any, .any], []⟩, [(.exit 0, ⟨[.any, .any, .any, .one (.onl 5 (Ty.int IntKind.u8) 7), .any, .any, .any, .any, .any, .any, .any, .any, .any, .any, .any, .any, .any, .any, .any], []⟩)]⟩
-- FWide_4 : loWide_4.st.den → Tr (DenX loWide_4.xs) | ((h1, (h2, ())), ())
def FWide_4 (d : loWide_4.st.den) : Tr (DenX loWide_4.xs) :=
  .ite (decide (d.1.2.1 = 0) && decide (d.1.1.length ≤ 4294967000)) (.ret (.ret ((), ((d.1.1 ++ spMarks, ()), ())))) .no
def lpWide : Lp := lpT [(4, loHd loWide_4 FWide_4)]
def stepWide_4 {R : Type} (h1 : List Int) (h2 : Int) (next : List Int → Int → Option R) (out : DenX loWide_4.xs → Option R) : Option R := bif decide (h2 < 96) then bif decide (h1.length + [IntKind.u8.wrap (IntKind.i64.wrap (IntKind.i64.wrap (h2 * 7) + 13))].length ≤ 4294967296) then next (h1 ++ [IntKind.u8.wrap (IntKind.i64.wrap (IntKind.i64.wrap (h2 * 7) + 13))]) (IntKind.i64.wrap (h2 + 1)) else none else out (.ret ((), ((h1, ()), ())))
def itWide_4 (n : Nat) (h1 : List Int) (h2 : Int) : Option (DenX loWide_4.xs) := lpN tt hdWide dr lpWide 0 Go.Proofs.Tryz.f23 (topL Go.Proofs.Tryz.f23 0) n (loWide_4.st.mk' ((h1, (h2, ())), ())) (decX loWide_4.xs)
theorem slWide_4 (n : Nat) (h1 : List Int) (h2 : Int) : itWide_4 (n + 1) h1 h2 = stepWide_4 h1 h2 (itWide_4 n) some := by kernel_rfl
theorem loopWide : ∀ (k : Nat) (o : List Int) (i : Nat), 96 < i + k → i ≤ 96 → o.length + (96 - i) ≤ 4294967296 →
    itWide_4 k o i = some (.ret ((), ((o ++ spMarks.drop i, ()), ()))) := by
  intro k
  induction k with
  | zero => intro o i _ _ h; omega
  | succ k ih =>
    intro o i h1 h2 h3
    rw [slWide_4]
    unfold stepWide_4
    by_cases hl : i < 96
    · have hlen : spMarks.length = 96 := by simp [spMarks]
      rw [wrap_succ hl (by rw [maxLen_eq]; omega), ih _ (i + 1) (by omega) (by omega) (by simp; omega)]
      rw [List.drop_eq_getElem_cons (show i < spMarks.length by omega)]
      have e1 : IntKind.i64.wrap ((i : Int) * 7) = (i : Int) * 7 := by rw [wrap_i64] <;> omega
      have e2 : IntKind.i64.wrap ((i : Int) * 7 + 13) = (i : Int) * 7 + 13 := by rw [wrap_i64] <;> omega
      have e3 : IntKind.u8.wrap ((i : Int) * 7 + 13) = spMarks[i]'(by omega) := by
        simp [IntKind.wrap, IntKind.signed, IntKind.bits, spMarks]
      rw [e1, e2, e3]
      have h4 : o.length + 1 ≤ 4294967296 := by omega
      have h5 : (i : Int) < 96 := by omega
      simp [h5, h4]
    · have hlen : spMarks.length = 96 := by simp [spMarks]
      rw [List.drop_of_length_le (by omega)]
      have h5 : ¬ (i : Int) < 96 := by omega
      simp [h5]
def bodyWide (a0 : List Int) : Option ioWide.Res := bif decide (a0.length ≤ 4294967296) then (FWide_4 ((a0, (0, ())), ())).run fun y => match y with | .ret ((), ((x6, ()), ())) => (some (Out.ret ((x6, ()), ()))) else none
theorem runWide (a0 : List Int) : Io.run tt hdWide dr lpWide ioWide Go.Proofs.Tryz.f23 ((a0, ()), ()) = bodyWide a0 := by kernel_rfl
theorem okWide : HcOk prog 23 (ioHd ioWide FWide) := by
  refine fn_sound (n := 400) hm (cs := csWide) (.cons okCopy .nil) (lp := lpWide) (fn := Go.Proofs.Tryz.f23) (by kernel_rfl) (by kernel_rfl) (by kernel_rfl) ioWide
    (.step (h0 := loHd loWide_4 FWide_4) (by kernel_rfl) (loop_sound (n := 400) hm (cs := csWide) (.cons okCopy .nil) (lp := lpWide) (fn := Go.Proofs.Tryz.f23) (.done (by kernel_rfl)) loWide_4 FWide_4 ?_) (.done (by kernel_rfl))) FWide ?_
  · rintro ⟨⟨o, i, ⟨⟩⟩, ⟨⟩⟩ y hw hy
    obtain ⟨hg, hy⟩ := Tr.guard hy
    simp only [Bool.and_eq_true, decide_eq_true_eq] at hg
    obtain ⟨rfl, hl⟩ := hg
    refine ⟨97, (loopWide _ o 0 (by omega) (by omega) (by omega)).trans ?_⟩
    rw [← hy]; rfl
  · rintro ⟨⟨b, ⟨⟩⟩, ⟨⟩⟩ out hw ho
    obtain ⟨hg, ho⟩ := Tr.guard ho
    cases ho
    refine (runWide b).trans ?_
    simp only [decide_eq_true_eq] at hg
    have hg : b.length ≤ 4294967000 := hg
    have h1 : b.length ≤ 4294967296 := by omega
    unfold bodyWide FWide_4
    simp [Tr.run_ite, Tr.run_ret, hg, h1]
end
end Go.Proofs.YtjpeefegeobgfaaGreat.Sym
namespace Go.Proofs.YtjpeefegeobgfaaGreat.Sym
open Go
set_option linter.unusedSimpArgs false
set_option linter.unusedVariables false
noncomputable section
def spIn (b : List Int) (p : Int) (lo hi : Int) : Bool := decide (p < (b.length : Int)) && (decide (lo ≤ b.getD p.toNat 0) && decide (b.getD p.toNat 0 ≤ hi))
abbrev iorwithin : Io := ⟨[dL, dI, dU, dU], [], [], [dB], none⟩
def Frwithin (d : iorwithin.In) : Tr iorwithin.Res := .ite (decide ((0 : Int) ≤ d.1.2.1)) (.ret (.ret ((spIn d.1.1 d.1.2.1 d.1.2.2.1 d.1.2.2.2.1, ()), ()))) .no
abbrev csrwithin : List (Nat × Hc) := []
def hdrwithin : Hd := hdT csrwithin
def lprwithin : Lp := lpT []
def bodyrwithin (a0 : List Int) (a1 : Int) (a2 : Int) (a3 : Int) : Option iorwithin.Res := bif decide (a1 < (↑a0.length : Int)) then bif decide (0 ≤ a1) && decide (a1 < (↑a0.length : Int)) then bif decide (a2 ≤ a0.getD a1.toNat 0) then bif decide (0 ≤ a1) && decide (a1 < (↑a0.length : Int)) then some (Out.ret ((decide (a0.getD a1.toNat 0 ≤ a3), ()), ())) else none else some (Out.ret ((false, ()), ())) else none else some (Out.ret ((false, ()), ()))
theorem runrwithin (a0 : List Int) (a1 : Int) (a2 : Int) (a3 : Int) : Io.run tt hdrwithin dr lprwithin iorwithin Go.Proofs.Tryz.f205 ((a0, a1, a2, a3, ()), ()) = bodyrwithin a0 a1 a2 a3 := by kernel_rfl
theorem okrwithin : HcOk prog 205 (ioHd iorwithin Frwithin) := by
  refine fn_sound (n := 400) hm (cs := csrwithin) HcsOk.nil (lp := lprwithin) (fn := Go.Proofs.Tryz.f205) (by kernel_rfl) (by kernel_rfl) (by kernel_rfl) iorwithin (.done (by kernel_rfl)) Frwithin ?_
  rintro ⟨⟨(b : List Int), (p : Int), (lo : Int), (hi : Int), ⟨⟩⟩, ⟨⟩⟩ out hw ho
  obtain ⟨hg, ho⟩ := Tr.guard ho
  cases ho
  refine (runrwithin b p lo hi).trans ?_
  have hg : (0 : Int) ≤ p := by simpa using hg
  unfold bodyrwithin
  show _ = some (Out.ret ((spIn b p lo hi, ()), ()))
  unfold spIn
  generalize b.getD p.toNat 0 = c
  by_cases h1 : p < (b.length : Int)
  · by_cases h2 : lo ≤ c
    · simp [hg, h1, h2]
    · simp [hg, h1, h2]
  · simp [h1]
end
end Go.Proofs.YtjpeefegeobgfaaGreat.Sym
