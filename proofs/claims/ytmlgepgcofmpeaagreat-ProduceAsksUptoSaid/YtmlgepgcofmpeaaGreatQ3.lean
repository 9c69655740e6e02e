/- Regions that may be carried out in several orders: one canonical order tells of all. -/
import Derived.OrdersHeld
import Derived.Recover
import Derived.Test.YtmlgepgcofmpeaaGreatProg
import Derived.Test.YtmlgepgcofmpeaaGreatRows
import Derived.WalkKit
import Derived.ProofKit
import Derived.OpenShut
import Derived.JoinedCond
import Derived.ChangeStays
import Derived.DataReads
import Derived.Test.YtmlgepgcofmpeaaGreatQ2

namespace Go.Proofs.YtmlgepgcofmpeaaGreat.Sym
open Go
set_option linter.unusedSimpArgs false
set_option linter.unusedVariables false

section
variable {P : Program} {ops : Array Oper} {Q : Exit → Act → World → Prop} {md : Region.Mode} {T : List Nat} {S0 : World → Prop}

/-- As long as nothing of T has come up, S0. -/
def Held (T : List Nat) (S0 : World → Prop) (listed : Array Bool) (w : World) : Prop := (∀ j ∈ T, listed.getD j false = false) → S0 w

def wpAnyL (P : Program) (md : Region.Mode) (ops : Array Oper) (Q : Exit → Act → World → Prop) (T : List Nat) (S0 : World → Prop) : Nat → Array Bool → Act → World → Prop
  | 0, listed, a, w => Region.ready md ops listed = [] ∧ Q .normal a w
  | n + 1, listed, a, w => (Region.ready md ops listed = [] → Q .normal a w) ∧
    ∀ i ∈ Region.ready md ops listed, wpOp P ops Q i (fun a' w' => Held T S0 (listed.setIfInBounds i true) w' ∧ wpAnyL P md ops Q T S0 n (listed.setIfInBounds i true) a' w') a w

theorem wpAnyL.any : ∀ (n : Nat) {listed : Array Bool} {a : Act} {w : World}, wpAnyL P md ops Q T S0 n listed a w → wpAny P md ops Q n listed a w
  | 0, _, _, _, h => h
  | n + 1, _, _, _, h => ⟨h.1, fun i hi => wpOp_mono (fun _ _ h' => wpAnyL.any n h'.2) (h.2 i hi)⟩
theorem wpAnyL.weaken {S1 : World → Prop} (hS : ∀ w, S0 w → S1 w) : ∀ (n : Nat) {listed : Array Bool} {a : Act} {w : World}, wpAnyL P md ops Q T S0 n listed a w → wpAnyL P md ops Q T S1 n listed a w
  | 0, _, _, _, h => h
  | n + 1, _, _, _, h => ⟨h.1, fun i hi => wpOp_mono (fun _ _ h' => ⟨fun ht => hS _ (h'.1 ht), wpAnyL.weaken hS n h'.2⟩) (h.2 i hi)⟩

/-- What only computes, or reads what S0 keeps, may be taken first. -/
theorem wpAnyL.first {i : Nat} {oi : Oper} {v : Value} (hi : ops[i]? = some oi) (hsel : ∀ (j : Nat) (o : Oper) cs b, ops[j]? = some o → o.op ≠ .select cs b)
    (hQ : ∀ c a w, Q (.panic c) (a.put oi.dst v) w → Q (.panic c) a w) {Z : List Nat} (hTZ : ∀ j ∈ T, j ∈ Z) (hZ : ∀ j ∈ Z, j ≠ i ∧ ∀ oj, ops[j]? = some oj → ∃ e ∈ oj.after, Region.binds md e = true ∧ (e.on = i ∨ e.on ∈ Z)) :
    ∀ (n : Nat) (listed : Array Bool) (a : Act) (w : World),
      (∀ j oj, ops[j]? = some oj → j ≠ i → listed.getD j true = false → (∀ e ∈ oj.after, Region.binds md e = true → e.on ≠ i) → oi.apart ops oj = true) →
      i ∈ Region.ready md ops listed → YieldsIf P ops S0 oi v a → S0 w → (∀ j ∈ Z, listed.getD j false = false) →
      wpAnyL P md ops Q T S0 n (listed.setIfInBounds i true) (a.put oi.dst v) w → wpAnyL P md ops Q T S0 (n + 1) listed a w := by
  intro n
  induction n with
  | zero =>
    intro listed a w _ hr hy hS hno h
    refine ⟨fun e => (by rw [e] at hr; cases hr), fun j hj => ?_⟩
    by_cases hji : j = i
    · subst hji; exact hy.wpOp hi hS ⟨fun _ => hS, h⟩
    · have := ready_mono hj hji
      rw [h.1] at this
      cases this
  | succ n ih =>
    intro listed a w hfree hr hy hS hno h
    refine ⟨fun e => (by rw [e] at hr; cases hr), fun j hj => ?_⟩
    by_cases hji : j = i
    · subst hji; exact hy.wpOp hi hS ⟨fun _ => hS, h⟩
    · have h1 := h.2 j (ready_mono hj hji)
      obtain ⟨hjun, oj, hoj, hall⟩ := mem_ready.1 hj
      have hnot : ∀ e ∈ oj.after, Region.binds md e = true → e.on ≠ i := fun e he hb heq => by
        have h2 := hall e he hb
        have h0 := (mem_ready.1 hr).1
        rw [heq] at h2
        rcases Nat.lt_or_ge i listed.size with h' | h'
        · simp [h'] at h0 h2; rw [h0] at h2; cases h2
        · simp [Array.getElem?_eq_none h'] at h2
      have hjZ : j ∉ Z := fun hin => by
        obtain ⟨e, he, hb, heq⟩ := (hZ j hin).2 oj hoj
        rcases heq with heq | heq
        · exact hnot e he hb heq
        · have h2 := hall e he hb
          have h0 := hno e.on heq
          rw [Array.getD_eq_getD_getElem?] at h0
          rcases Nat.lt_or_ge e.on listed.size with h' | h'
          · simp [h'] at h0 h2; rw [h0] at h2; cases h2
          · simp [Array.getElem?_eq_none h'] at h2
      have h2 := wpOp_putIf hoj (hfree j oj hoj hji hjun hnot) (fun cs b => hsel i oi cs b hi) (fun cs b => hsel j oj cs b hoj) hQ hy h1
      have hfree' : ∀ k ok, ops[k]? = some ok → k ≠ i → (listed.setIfInBounds j true).getD k true = false →
          (∀ e ∈ ok.after, Region.binds md e = true → e.on ≠ i) → oi.apart ops ok = true := fun k ok hk hki hun hno => by
        refine hfree k ok hk hki ?_ hno
        by_cases hjk : j = k
        · subst hjk; exact hjun
        · rw [getD_set_ne true hjk] at hun; exact hun
      have hno' : ∀ k ∈ Z, (listed.setIfInBounds j true).getD k false = false := fun k hk => by
        rw [getD_set_ne false (fun e => hjZ (by rw [e]; exact hk))]; exact hno k hk
      refine wpOp_mono (fun a' w' h3 => ?_) h2
      have hs : S0 w' := h3.2.1 fun k hk => by
        rw [getD_set_ne false (fun e => hjZ (by rw [e]; exact hTZ k hk)), getD_set_ne false (Ne.symm (hZ k (hTZ k hk)).1)]; exact hno k (hTZ k hk)
      refine ⟨fun _ => hs, ih (listed.setIfInBounds j true) a' w' hfree' (ready_mono hr (Ne.symm hji)) h3.1 hs hno' ?_⟩
      rw [Array.setIfInBounds_comm _ _ hji]
      exact h3.2.2

/-! ### panics -/
theorem Oper.wp_monoQ {o : Oper} {a : Act} {w : World} {K : Act → World → Prop} {Q' : Exit → Act → World → Prop} (h : ∀ e a w, Q e a w → Q' e a w) (hh : o.wp P a w K Q) : o.wp P a w K Q' := by
  unfold Oper.wp at *
  generalize (execOp a.eval o).run P w = r at *
  cases r with
  | ok n w' =>
    cases n <;> simp only [Oper.upon] at hh ⊢ <;>
      first
        | exact hh
        | exact h _ _ _ hh
        | exact Calls.mono hh (fun e w'' he => by cases e <;> first | exact he | (obtain ⟨a0, w0, h0⟩ := he; exact ⟨a0, w0, h _ _ _ h0⟩) | exact h _ _ _ he)
        | exact Rows.mono hh (fun _ _ he => he)
  | halt x w' => cases x <;> simp only [Oper.upon] at hh ⊢ <;> first | exact hh | exact h _ _ _ hh
theorem wpOp_monoQ {i : Nat} {K : Act → World → Prop} {Q' : Exit → Act → World → Prop} (h : ∀ e a w, Q e a w → Q' e a w) {a : Act} {w : World} (hh : wpOp P ops Q i K a w) : wpOp P ops Q' i K a w := by
  unfold wpOp at *
  split
  · rename_i ho
    simpa only [ho] using hh
  · rename_i o ho
    simp only [ho] at hh
    split
    · rename_i hw
      simp only [hw, if_true] at hh
      rcases hh with hh | ⟨h1, a0, w0, h2⟩
      · exact .inl (Oper.wp_monoQ h hh)
      · exact .inr ⟨h1, a0, w0, h _ _ _ h2⟩
    · rename_i hw
      simpa [hw] using hh
theorem wpAny_monoQ {Q' : Exit → Act → World → Prop} (h : ∀ e a w, Q e a w → Q' e a w) : ∀ (n : Nat) {listed : Array Bool} {a : Act} {w : World}, wpAny P md ops Q n listed a w → wpAny P md ops Q' n listed a w
  | 0, _, _, _, hh => ⟨hh.1, h _ _ _ hh.2⟩
  | n + 1, _, _, _, hh => ⟨fun e => h _ _ _ (hh.1 e), fun i hi => wpOp_monoQ h (wpOp_mono (fun _ _ h' => wpAny_monoQ h n h') (hh.2 i hi))⟩

/-- Alike but in what the region's operations write. -/
def Near (ops : Array Oper) (a a' : Act) : Prop :=
  a'.defers = a.defers ∧ a'.tmps.size = a.tmps.size ∧ ∀ t, (∀ (j : Nat) (oj : Oper), ops[j]? = some oj → oj.dst ≠ some t) → a'.tmps[t]? = a.tmps[t]?
def Qh (ops : Array Oper) (Q : Exit → Act → World → Prop) : Exit → Act → World → Prop
  | .panic c, a, w => ∀ a', Near ops a a' → Q (.panic c) a' w
  | e, a, w => Q e a w
theorem Qh.of {e : Exit} {a : Act} {w : World} (h : Qh ops Q e a w) : Q e a w := by
  cases e <;> first | exact h | exact h a ⟨rfl, rfl, fun _ _ => rfl⟩
theorem Qh.put {i : Nat} {oi : Oper} (hi : ops[i]? = some oi) (v : Value) (c : List PanicEntry) (a : Act) (w : World) (h : Qh ops Q (.panic c) (a.put oi.dst v) w) : Qh ops Q (.panic c) a w := by
  intro a' ⟨h1, h2, h3⟩
  refine h a' ⟨h1.trans (Act.put_defers' _ _ _).symm, ?_, fun t ht => ?_⟩
  · rw [h2]; cases oi.dst <;> simp [Act.put]
  · rw [h3 t ht]
    cases hd : oi.dst with
    | none => rfl
    | some d =>
      have : d ≠ t := by rintro rfl; exact ht i oi hi hd
      simp [Act.put, Array.getElem?_setIfInBounds_ne this]
end

theorem dstMask_bit {ops : Array Oper} {j t : Nat} {oj : Oper} (hj : ops[j]? = some oj) (hd : oj.dst = some t) : (dstMask ops).testBit t = true := by
  unfold dstMask
  have hm : oj ∈ ops.toList := List.mem_of_getElem? (by simpa using hj)
  generalize ops.toList = l at hm
  have mono : ∀ (l : List Oper) (m : Nat), m.testBit t = true → (l.foldl (fun m o => match o.dst with | some d => m ||| 2 ^ d | none => m) m).testBit t = true := by
    intro l
    induction l with
    | nil => intro m h; exact h
    | cons o l ih =>
      intro m h
      rw [List.foldl_cons]
      refine ih _ ?_
      split
      · rw [Nat.testBit_or, h]; rfl
      · exact h
  generalize 0 = m
  induction l generalizing m with
  | nil => cases hm
  | cons o l ih =>
    rw [List.foldl_cons]
    rcases List.mem_cons.1 hm with rfl | hm
    · refine mono l _ ?_
      rw [hd]
      simp only
      rw [Nat.testBit_or, Nat.testBit_two_pow_self, Bool.or_true]
    · exact ih hm _
theorem maskN_sound {G : Gh} {w : World} (m : Nat) : ∀ (i : Nat) {vs : List V} {us us' : List Value}, All2 (Rv G w) vs us → us'.length = us.length → (∀ t, m.testBit (i + t) = false → us'[t]? = us[t]?) → All2 (Rv G w) (maskN m i vs) us'
  | _, [], [], [], _, _, _ => trivial
  | i, v :: vs, u :: us, u' :: us', h, hl, ht => by
    refine ⟨?_, maskN_sound m (i + 1) h.2 (by simpa using hl) fun t h' => ?_⟩
    · cases hb : m.testBit i with
      | true => trivial
      | false =>
        have := ht 0 (by simpa using hb)
        simp only [List.getElem?_cons_zero, Option.some.injEq] at this
        rw [this]; exact h.1
    · have := ht (t + 1) (by rw [← h']; congr 1; omega)
      simpa using this
  | _, [], _ :: _, _, h, _, _ => h.elim
  | _, _ :: _, [], _, h, _, _ => h.elim
  | _, [], [], _ :: _, _, hl, _ => by simp at hl
  | _, _ :: _, _ :: _, [], _, hl, _ => by simp at hl
theorem Rel.mask {F : Fra} {G : Gh} {A : AS} {a a' : Act} {cst : List (Array Value)} {w : World} (R : Rel F G A a.tmps cst w) {ops : Array Oper} (hn : Near ops a a') :
    Rel F G { A with tm := maskN (dstMask ops) 0 A.tm } a'.tmps cst w :=
  ⟨maskN_sound _ 0 R.tm (by simpa using hn.2.1) fun t ht => by
    have := hn.2.2 t fun j oj hj hd => by rw [Nat.zero_add, dstMask_bit hj hd] at ht; cases ht
    simpa using this, R.stk, R.ob, R.gh⟩

/-! ### the test of an order -/
/-- All that waits for i, at once or by way of others. -/
def depStep (ops : Array Oper) (i : Nat) (Z : List Nat) (j : Nat) : List Nat := match ops[j]? with
  | some o => bif o.after.any fun e => Region.binds .any e && (e.on == i || Z.any (· == e.on)) then j :: Z else Z
  | none => Z
def depsOn (ops : Array Oper) (i : Nat) : List Nat := (List.range ops.size).foldl (depStep ops i) []
def waitsOn (ops : Array Oper) (j i : Nat) : Bool := (depsOn ops i).any (· == j)
def quietOk (ops : Array Oper) (T : List Nat) (listed : Array Bool) (i : Nat) : Bool :=
  Region.free .any ops listed i && ((Region.ready .any ops listed).contains i && ((T.all fun j => waitsOn ops j i) && (depsOn ops i).all fun j => !(j == i) && !listed.getD j false))
theorem depsOn_spec (ops : Array Oper) (i : Nat) : ∀ j ∈ depsOn ops i, ∀ oj, ops[j]? = some oj → ∃ e ∈ oj.after, Region.binds .any e = true ∧ (e.on = i ∨ e.on ∈ depsOn ops i) := by
  have key : ∀ (l : List Nat) (Z : List Nat), (∀ j ∈ Z, ∀ oj, ops[j]? = some oj → ∃ e ∈ oj.after, Region.binds .any e = true ∧ (e.on = i ∨ e.on ∈ Z)) →
      ∀ j ∈ l.foldl (depStep ops i) Z, ∀ oj, ops[j]? = some oj → ∃ e ∈ oj.after, Region.binds .any e = true ∧ (e.on = i ∨ e.on ∈ l.foldl (depStep ops i) Z) := by
    intro l
    induction l with
    | nil => intro Z h; exact h
    | cons k l ih =>
      intro Z h
      rw [List.foldl_cons]
      refine ih _ fun j hj oj hoj => ?_
      unfold depStep at hj ⊢
      cases hk : ops[k]? with
      | none => rw [hk] at hj; exact h j hj oj hoj
      | some o =>
        rw [hk] at hj
        simp only at hj ⊢
        cases hc : o.after.any fun e => Region.binds .any e && (e.on == i || Z.any (· == e.on)) with
        | false => rw [hc] at hj; exact h j hj oj hoj
        | true =>
          rw [hc] at hj
          simp only [cond_true] at hj ⊢
          rcases List.mem_cons.1 hj with rfl | hj
          · rw [hk] at hoj; cases hoj
            obtain ⟨e, he, hb⟩ := Array.any_eq_true'.1 hc
            simp only [Bool.and_eq_true, Bool.or_eq_true, beq_iff_eq, List.any_eq_true, exists_eq_right] at hb
            exact ⟨e, he, hb.1, hb.2.imp id fun h => List.mem_cons_of_mem _ h⟩
          · obtain ⟨e, he, hb, h2⟩ := h j hj oj hoj
            exact ⟨e, he, hb, h2.imp id fun h => List.mem_cons_of_mem _ h⟩
  exact key _ [] fun j hj => by cases hj
def soleOk (ops : Array Oper) (listed : Array Bool) (i : Nat) : Bool := match Region.ready .any ops listed with
  | [j] => j == i
  | _ => false
def readOk (tt : TT) (ops : Array Oper) (i : Nat) : Bool := match ops[i]? with
  | some o => !isRead tt o.op
  | none => false
/-- The allocs that are still to be listed. -/
def pfO : List (Nat × Nat) → List Nat
  | [] => []
  | (i, m) :: is => bif Nat.beq m 4 then i :: pfO is else pfO is
def addsL (l : Array Bool) : List Nat → Array Bool
  | [] => l
  | j :: js => addsL (l.setIfInBounds j true) js
def floatOk (ops : Array Oper) (j : Nat) : Bool := match ops[j]? with
  | some o => (match o.op with | .alloc _ => true | _ => false) && (o.after.isEmpty && (o.guard.isNone && (match o.dst with
    | some d => (List.range ops.size).all fun k => k == j || (match ops[k]? with | some o' => !(o'.dst == some d) | none => true)
    | none => false)))
  | none => false
def pendOk (ops : Array Oper) (l0 : Array Bool) (pf : List Nat) : Bool := pf.all fun j => floatOk ops j && !l0.getD j true
def soleF (ops : Array Oper) (l0 : Array Bool) (pf : List Nat) (i : Nat) : Bool := (Region.ready .any ops l0).contains i && (Region.ready .any ops (addsL l0 pf)).all (· == i)
def chkD (tt : TT) (ops : Array Oper) (T : List Nat) : Bool → Array Bool → List (Nat × Nat) → Bool
  | _, listed, [] => (Region.ready .any ops listed).isEmpty
  | ph, listed, (i, m) :: is => match m with
    | 0 => quietOk ops T listed i && readOk tt ops i && (!(pfO is).contains i && pendOk ops listed (pfO is)) && chkD tt ops T ph (listed.setIfInBounds i true) is
    | 1 => quietOk ops T listed i && ph && (!(pfO is).contains i && pendOk ops listed (pfO is)) && chkD tt ops T ph (listed.setIfInBounds i true) is
    | 2 => soleOk ops listed i && T.all (fun j => !(j == i)) && (pfO is).isEmpty && chkD tt ops T false (listed.setIfInBounds i true) is
    | n + 3 => bif Nat.beq n 1 then (!(pfO is).contains i && pendOk ops listed (i :: pfO is)) && (Region.ready .any ops (addsL listed (pfO is))).all (· == i) && chkD tt ops T false (listed.setIfInBounds i true) is
      else bif Nat.beq n 3 then soleF ops listed (pfO is) i && T.all (fun j => !(j == i)) && (!(pfO is).contains i && pendOk ops listed (pfO is)) && chkD tt ops T false (listed.setIfInBounds i true) is
      else soleOk ops listed i && (T.any (· == i) && decide (i < listed.size)) && (pfO is).isEmpty && chkD tt ops T false (listed.setIfInBounds i true) is

section
variable {P : Program} {tt : TT} {ops : Array Oper} {T : List Nat}

theorem Qh.post {R : Type} {F : Fra} {G' : Gh} {A' : AS} {a' : Act} {cst : List (Array Value)} {w' : World} {r : R} {K : Ex → AS → Option R} {Q : Exit → Act → World → Prop} {dfs : List Deferred} (hK : Post F cst dfs r K Q)
    (R' : Rel F G' A' a'.tmps cst w') (hd : a'.defers = dfs) {v : V} (hk : K (.panic v) { A' with tm := maskN (dstMask ops) 0 A'.tm } = some r) (u : Value) (hu : Rv G' w' v u) :
    Qh ops Q (.panic [{ v := u, recovered := false }]) a' w' := by
  intro a'' hn
  exact hK (.panic v) _ G' a'' w' (R'.mask hn) (hn.1.trans hd) hk u hu

/-- What is known as long as nothing of T has come. -/
structure Hold (G0 : Gh) (w0 : World) (hid : List Nat) (G : Gh) (w : World) : Prop where
  sub : ∀ b o, G0.S b o → G.S b o
  mu : ∀ key ∈ hid, ∀ b, G0.mu key = some b → G.mu key = some b
  agr : Agr (· ∈ hid) G0 w0 w
theorem Hold.step {G0 G G' : Gh} {w0 w w' : World} {hid : List Nat} (h : Hold G0 w0 hid G w) (u : UntH G hid w G' w') : Hold G0 w0 hid G' w' where
  sub := fun b o hs => (u.1 b o (h.sub b o hs)).1
  mu := fun key hk b hb => (u.2 key hk b (h.mu key hk b hb)).1
  agr := ⟨fun b o hs => (u.1 b o (h.sub b o hs)).2.trans (h.agr.1 b o hs), fun key b hk hb => (u.2 key hk b (h.mu key hk b hb)).2.trans (h.agr.2 key b hk hb)⟩


/-! ### allocs that may come at any time -/
theorem addsL_size : ∀ (X : List Nat) (l : Array Bool), (addsL l X).size = l.size
  | [], _ => rfl
  | j :: js, l => by rw [addsL, addsL_size js]; simp
theorem addsL_get : ∀ (X : List Nat) (l : Array Bool) (k : Nat), k ∉ X → (addsL l X)[k]? = l[k]?
  | [], _, _, _ => rfl
  | j :: js, l, k, h => by
    rw [addsL, addsL_get js _ k (fun e => h (List.mem_cons_of_mem _ e)), Array.getElem?_setIfInBounds_ne]
    exact fun e => h (e ▸ List.mem_cons_self)
theorem addsL_true : ∀ (X : List Nat) (l : Array Bool) (k : Nat), l.getD k false = true → (addsL l X).getD k false = true
  | [], _, _, h => h
  | j :: js, l, k, h => addsL_true js _ k (getD_set_true h)
theorem addsL_mem : ∀ (X : List Nat) (l : Array Bool) (k : Nat), k ∈ X → k < l.size → (addsL l X).getD k false = true
  | j :: js, l, k, h, hk => by
    rw [addsL]
    rcases List.mem_cons.1 h with rfl | h
    · exact addsL_true js _ _ (by simp [hk])
    · exact addsL_mem js _ k h (by simpa using hk)
theorem pfO_len : ∀ is : List (Nat × Nat), (pfO is).length ≤ is.length
  | [] => Nat.le_refl _
  | (i, m) :: is => by
    rw [pfO]
    cases Nat.beq m 4 with
    | true => have := pfO_len is; simp only [cond_true, List.length_cons]; omega
    | false => have := pfO_len is; simp only [cond_false, List.length_cons]; omega
theorem flD_pfO : ∀ (is : List (Nat × Nat)) {j d : Nat} {o : Oper}, j ∈ pfO is → ops[j]? = some o → o.dst = some d → d ∈ flD ops is
  | [], _, _, _, hj, _, _ => by simp [pfO] at hj
  | (i, m) :: is, j, d, o, hj, ho, hd => by
    rw [pfO] at hj
    rw [flD]
    cases hm : Nat.beq m 4 with
    | true =>
      rw [hm] at hj
      simp only [cond_true] at hj ⊢
      rcases List.mem_cons.1 hj with rfl | hj
      · rw [ho, Option.bind_some, hd]; simp
      · have := flD_pfO is hj ho hd
        split
        · exact List.mem_cons_of_mem _ this
        · exact this
    | false => rw [hm] at hj; exact flD_pfO is hj ho hd
theorem alOk_pfO {tt : TT} {kb : Nat} : ∀ (is : List (Nat × Nat)), alOk tt ops is = true → ∀ {j : Nat}, j ∈ pfO is → ∀ o t d, ops[j]? = some o → o.op = .alloc t → o.dst = some d → ∀ z, ∃ A', evA tt kb z o.dst o.op = some (true, A')
  | [], _, j, hj => by simp [pfO] at hj
  | (i, m) :: is, h, j, hj => by
    intro o t d ho hop hd z
    rw [pfO] at hj
    rw [alOk] at h
    simp only [Bool.and_eq_true] at h
    cases hm : Nat.beq m 4 with
    | true =>
      rw [hm] at hj h
      simp only [cond_true] at hj h
      rcases List.mem_cons.1 hj with rfl | hj
      · have h1 := h.1
        rw [ho] at h1
        simp only [hop] at h1
        rw [hop, hd]
        simp only [evA]
        rw [h1]
        exact ⟨_, rfl⟩
      · exact alOk_pfO is h.2 hj o t d ho hop hd z
    | false => rw [hm] at hj; exact alOk_pfO is h.2 hj o t d ho hop hd z
theorem floatOk_spec {j : Nat} (h : floatOk ops j = true) : ∃ o t d, ops[j]? = some o ∧ o.op = .alloc t ∧ o.after = #[] ∧ o.guard = none ∧ o.dst = some d ∧ ∀ k o', k ≠ j → ops[k]? = some o' → o'.dst ≠ some d := by
  unfold floatOk at h
  split at h
  · rename_i o ho
    simp only [Bool.and_eq_true] at h
    obtain ⟨h1, h2, h3, h4⟩ := h
    split at h1
    · rename_i t ht
      split at h4
      · rename_i d hd
        refine ⟨o, t, d, ho, ht, by simpa using h2, by simpa using h3, hd, fun k o' hk hk' => ?_⟩
        simp only [List.all_eq_true, List.mem_range, Bool.or_eq_true, beq_iff_eq] at h4
        have := (h4 k (Array.getElem?_eq_some_iff.1 hk').1).resolve_left hk
        rw [hk'] at this
        simpa using this
      · cases h4
    · cases h1
  · cases h
theorem pendOk_spec {l0 : Array Bool} {pf : List Nat} (h : pendOk ops l0 pf = true) : ∀ j ∈ pf, floatOk ops j = true ∧ l0.getD j true = false := by
  intro j hj
  have := List.all_eq_true.1 h j hj
  simpa using this

theorem V.map_noKey {v : V} {k : Nat} (h : v.hasKey k = false) : v.map (C.noKey k) = v := by
  have hl : ∀ cs : List C, cs.any (·.hasKey k) = false → cs.map (C.noKey k) = cs := fun cs h => by
    conv => rhs; rw [← List.map_id cs]
    refine List.map_congr_left fun c hc => ?_
    have := List.any_eq_false.1 h c hc
    simp [C.noKey, this]
  cases v with
  | one c => simp only [V.map]; simp only [V.hasKey] at h; simp [C.noKey, h]
  | agg cs => simp only [V.map]; rw [hl cs h]
  | tup ps =>
    simp only [V.map]
    congr 1
    conv => rhs; rw [← List.map_id ps]
    refine List.map_congr_left fun p hp => ?_
    have := List.any_eq_false.1 h p hp
    rw [hl p.2 (by simpa using this)]; rfl
  | any => rfl
theorem AS.map_noKey {A : AS} {k : Nat} (h : A.uses k = false) : A.map (C.noKey k) = A := by
  unfold AS.uses at h
  simp only [Bool.or_eq_false_iff] at h
  obtain ⟨⟨h1, h2⟩, h3⟩ := h
  obtain ⟨tm, stk, ob⟩ := A
  have ht : ∀ vs : List V, (∀ v ∈ vs, v.map (C.noKey k) = v) → vs.map (V.map (C.noKey k)) = vs := fun vs h => by
    conv => rhs; rw [← List.map_id vs]
    exact List.map_congr_left h
  simp only [AS.map]
  congr 1
  · exact ht tm fun v hv => V.map_noKey (by have := List.any_eq_false.1 h1 v hv; simpa using this)
  · conv => rhs; rw [← List.map_id stk]
    refine List.map_congr_left fun vs hvs => ?_
    have := List.any_eq_false.1 h2 vs hvs
    exact ht vs fun v hv => V.map_noKey (by
      have h' : vs.any (·.hasKey k) = false := by simpa using this
      have := List.any_eq_false.1 h' v hv; simpa using this)
  · conv => rhs; rw [← List.map_id ob]
    refine List.map_congr_left fun o ho => ?_
    have := List.any_eq_false.1 h3 o ho
    cases o with
    | none => rfl
    | some cs =>
      have h' : cs.any (·.hasKey k) = false := by simpa using this
      simp only [Option.map_some, id]
      congr 1
      conv => rhs; rw [← List.map_id cs]
      refine List.map_congr_left fun c hc => ?_
      have := List.any_eq_false.1 h' c hc
      simp [C.noKey, this]
theorem Rc.noKey' {G : Gh} {w : World} {c : C} {v : Value} (k : Nat) (h : Rc G w c v) : Rc G w (c.noKey k) v := by
  unfold C.noKey
  split
  · exact h.cell
  · exact h
theorem Rel.forgetO {F : Fra} {G : Gh} {A : AS} {ts : Array Value} {cst : List (Array Value)} {w : World} (R : Rel F G A ts cst w) (k : Nat) : Rel F G (A.forgetO k) ts cst w := by
  have R' := R.map (f := C.noKey k) (fun c v h => h.noKey' k) (noKey_itr k) (fun _ _ h => ⟨h, rfl⟩) R.gh
  refine ⟨R'.tm, R'.stk, fun j cs hj => ?_, R.gh⟩
  simp only [AS.forgetO, List.getElem?_set] at hj
  split at hj
  · split at hj <;> cases hj
  · exact R'.ob j cs hj
theorem Rel.anyT {F : Fra} {G : Gh} {A : AS} {ts : Array Value} {cst : List (Array Value)} {w : World} (R : Rel F G A ts cst w) (d : Nat) : Rel F G (A.put (some d) .any) ts cst w :=
  ⟨R.tm.set_left d fun _ _ => trivial, R.stk, R.ob, R.gh⟩
theorem Rel.clean {F : Fra} {G : Gh} {ts : Array Value} {cst : List (Array Value)} {w : World} {kb : Nat} : ∀ (ds : List Nat) {A : AS}, Rel F G A ts cst w → Rel F G (cleanD kb ds A) ts cst w
  | [], _, R => R
  | d :: ds, _, R => Rel.clean ds ((R.forgetO (kb + d)).anyT d)
theorem All2.set_right {α β : Type} {R : α → β → Prop} : ∀ {xs : List α} {ys : List β} (n : Nat) {b : β}, All2 R xs ys → (∀ a, xs[n]? = some a → R a b) → All2 R xs (ys.set n b)
  | [], [], _, _, _, _ => by simp [All2]
  | _ :: _, _ :: _, 0, _, h, h' => ⟨h' _ rfl, h.2⟩
  | _ :: _, _ :: _, n + 1, _, h, h' => ⟨h.1, All2.set_right n h.2 fun b hb => h' b (by simpa using hb)⟩
  | [], _ :: _, _, _, h, _ => h.elim
  | _ :: _, [], _, _, h, _ => h.elim
/-- The alloc comes, and nothing is said of it. -/
theorem Rel.newFl {F : Fra} {G : Gh} {A : AS} {ts : Array Value} {cst : List (Array Value)} {w w' : World} {kb d : Nat} (R : Rel F G A ts cst w) (g : Grew w w') (hk0 : F.mu0 (kb + d) = none) (hc : isClean kb A d = true) (u : Value) :
    Rel F (G.newOb (kb + d) w.heap.size) A (ts.setIfInBounds d u) cst w' := by
  unfold isClean at hc
  simp only [Bool.and_eq_true, Bool.not_eq_true'] at hc
  obtain ⟨h1, h2, h3⟩ := hc
  have e := AS.map_noKey h1
  have go := Goes.newOb R.gh g (kb + d)
  have hf : ∀ c v, Rc G w c v → Rc (G.newOb (kb + d) w.heap.size) w' (c.noKey (kb + d)) v := fun c v h => h.noKey go
  have ht : All2 (Rv (G.newOb (kb + d) w.heap.size) w') (A.map (C.noKey (kb + d))).tm ts.toList := R.tm.map_left _ fun a b h => Rv.map hf h
  have hs : All2 (fun vs (t : Array Value) => All2 (Rv (G.newOb (kb + d) w.heap.size) w') vs t.toList) (A.map (C.noKey (kb + d))).stk cst := R.stk.map_left _ fun a b h => h.map_left _ fun a b h => Rv.map hf h
  rw [e] at ht hs
  refine ⟨?_, hs, fun k cs hk => ?_, R.gh.newOb g (kb + d) hk0⟩
  · rw [Array.toList_setIfInBounds]
    refine ht.set_right d fun v hv => ?_
    rw [hv] at h2
    cases v <;> first | trivial | cases h2
  · have hne : k ≠ kb + d := by rintro rfl; rw [hk] at h3; cases h3
    have hk' : (A.map (C.noKey (kb + d))).ob[k]? = some (some cs) := by rw [e]; exact hk
    obtain ⟨cs0, h0, rfl⟩ := AS.map_ob hk'
    obtain ⟨b, o', hm, hh', hr'⟩ := R.ob k cs0 h0
    exact ⟨b, o', by simp [Gh.newOb, hne, hm], (g.old b (R.gh.mu k b hm).2.2).trans hh', hr'.map hf (noKey_itr _)⟩
theorem run_allocZ (htt : TTok P tt) {o : Oper} {t d kb : Nat} {A A' : AS} {chk : Bool} (ho : o.op = .alloc t) (hd : o.dst = some d) (h : evA tt kb A o.dst o.op = some (chk, A')) (a : Act) (w : World) :
    ∃ cur : Array Value, (execOp a.eval o).run P w = .ok (.value (.pointer (some ⟨w.heap.size, 0, none⟩))) (w.alloc (.cells cur t)) ∧ cur.toList = (tt.at t).zero ∧ (tt.at t).zero.all Value.oneCell' = true ∧
      A' = (A.newOb (kb + d) (zeroCs tt (idCell (kb + d) 0) t)).put (some d) (.one (.ptr (kb + d) 0)) := by
  rw [ho, hd] at h
  simp only [evA] at h
  cases hz : (szOf tt t).isSome && (tt.at t).zero.all Value.oneCell' with
  | false => rw [hz] at h; cases h
  | true =>
    rw [hz] at h
    simp only [cond_true, Option.some.injEq, Prod.mk.injEq] at h
    obtain ⟨_, rfl⟩ := h
    simp only [Bool.and_eq_true] at hz
    obtain ⟨n, hn⟩ := Option.isSome_iff_exists.1 hz.1
    obtain ⟨hT, _⟩ := szOf_sound htt hn
    obtain ⟨z, hzr, hzc, _⟩ := hT.zero w
    refine ⟨z.cells, ?_, hzc, hz.2, rfl⟩
    obtain ⟨dst, op, type, pos, after, guard⟩ := o
    simp only at ho hd
    subst ho
    simp [execOp, Instr.alloc, hzr, newVar, run_newRow]
/-- The alloc j has come. -/
def FlDone (tt : TT) (ops : Array Oper) (kb j : Nat) (G : Gh) (a : Act) (w : World) : Prop :=
  ∃ (o : Oper) (t d b : Nat) (cur : Array Value), ops[j]? = some o ∧ o.op = .alloc t ∧ o.dst = some d ∧ G.mu (kb + d) = some b ∧ (∀ u, a.tmps[d]? = some u → u = .pointer (some ⟨b, 0, none⟩)) ∧
    w.heap[b]? = some (.cells cur t (0, 0)) ∧ cur.toList = (tt.at t).zero
theorem Act.put_get {a : Act} {dst : Option Tmp} {d : Nat} (h : dst ≠ some d) (u : Value) : (a.put dst u).tmps[d]? = a.tmps[d]? := by
  cases dst with
  | none => rfl
  | some d' =>
    have : d' ≠ d := fun e => h (by rw [e])
    simp [Act.put, Array.getElem?_setIfInBounds_ne this]
theorem FlDone.put {kb i j : Nat} {oi : Oper} {G : Gh} {a : Act} {w : World} (h : FlDone tt ops kb j G a w) (hf : floatOk ops j = true) (hi : ops[i]? = some oi) (hne : i ≠ j) (u : Value) : FlDone tt ops kb j G (a.put oi.dst u) w := by
  obtain ⟨o, t, d, b, cur, ho, h1, h2, h3, h4, h5, h6⟩ := h
  refine ⟨o, t, d, b, cur, ho, h1, h2, h3, fun v hv => h4 v ?_, h5, h6⟩
  obtain ⟨o', t', d', ho', _, _, _, hd', hall⟩ := floatOk_spec hf
  rw [ho] at ho'; cases ho'
  rw [h2] at hd'; cases hd'
  rw [Act.put_get (hall i oi hne hi)] at hv
  exact hv
theorem FlDone.unt {kb j : Nat} {ks : List Nat} {G G' : Gh} {a : Act} {w w' : World} (h : FlDone tt ops kb j G a w) (hk : ∀ o d, ops[j]? = some o → o.dst = some d → kb + d ∈ ks) (hu : UntH G ks w G' w') : FlDone tt ops kb j G' a w' := by
  obtain ⟨o, t, d, b, cur, ho, h1, h2, h3, h4, h5, h6⟩ := h
  obtain ⟨e1, e2⟩ := hu.2 _ (hk o d ho h2) b h3
  exact ⟨o, t, d, b, cur, ho, h1, h2, e1, h4, e2.trans h5, h6⟩
/-- What is said of it at last. -/
theorem Rel.found {F : Fra} {G : Gh} {A : AS} {a : Act} {cst : List (Array Value)} {w : World} {kb d t b : Nat} {cur : Array Value} (R : Rel F G A a.tmps cst w) (h3 : G.mu (kb + d) = some b) (h4 : ∀ u, a.tmps[d]? = some u → u = .pointer (some ⟨b, 0, none⟩))
    (h5 : w.heap[b]? = some (.cells cur t (0, 0))) (h6 : cur.toList = (tt.at t).zero) (hz : (tt.at t).zero.all Value.oneCell' = true) :
    Rel F G ((A.newOb (kb + d) (zeroCs tt (idCell (kb + d) 0) t)).put (some d) (.one (.ptr (kb + d) 0))) a.tmps cst w := by
  have R' := R.map (f := C.noKey (kb + d)) (fun c v h => h.noKey' (kb + d)) (noKey_itr _) (fun _ _ h => ⟨h, rfl⟩) R.gh
  refine ⟨?_, R'.stk, ?_, R.gh⟩
  · refine R'.tm.set_left d fun u hu => ?_
    rw [Array.getElem?_toList] at hu
    exact ⟨b, h3, h4 u hu⟩
  · intro k cs hk
    rcases getElem?_newOb' _ (kb + d) k _ cs hk with ⟨rfl, rfl⟩ | ⟨hne, hk'⟩
    · exact ⟨b, _, h3, h5, .inl ⟨cur, t, rfl, by rw [h6]; exact zeroCs_sound _ _ hz⟩⟩
    · exact R'.ob k cs hk'

/-- A place in an order at which the allocs pf are still to be listed, and of which ud have not come. -/
structure FlSt (P : Program) (tt : TT) (ops : Array Oper) (T : List Nat) (kb : Nat) (F : Fra) (cst : List (Array Value)) (dfs : List Deferred) (A : AS) (hid : List Nat) (G0 : Gh) (w0 : World) (l0 : Array Bool) (pf : List Nat) (L : Nat)
    (ud : List Nat) (n : Nat) (listed : Array Bool) (G : Gh) (a : Act) (w : World) : Prop where
  size : listed.size = l0.size
  get : ∀ k, k ∉ pf → listed[k]? = l0[k]?
  nodup : ud.Nodup
  und : ∀ j ∈ ud, j ∈ pf ∧ listed[j]? = l0[j]?
  done : ∀ j ∈ pf, j ∉ ud → listed.getD j false = true ∧ FlDone tt ops kb j G a w
  cnt : n + pf.length = L + ud.length
  rel : Rel F G A a.tmps cst w
  hold : (∀ j ∈ T, listed.getD j false = false) → Hold G0 w0 hid G w
  dfs : a.defers = dfs

theorem getD_of_get {l l' : Array Bool} {k : Nat} (h : l[k]? = l'[k]?) (d : Bool) : l.getD k d = l'.getD k d := by
  rw [Array.getD_eq_getD_getElem?, Array.getD_eq_getD_getElem?, h]
theorem FlSt.fl (htt : TTok P tt) {kb : Nat} {F : Fra} (hkb : ∀ d, F.mu0 (kb + d) = none) {cst : List (Array Value)} {dfs : List Deferred} {A : AS} {hid : List Nat} {G0 : Gh} {w0 : World} {l0 : Array Bool} {pf : List Nat} {L : Nat}
    {ud : List Nat} {n : Nat} {listed : Array Bool} {G : Gh} {a : Act} {w : World} (S : FlSt P tt ops T kb F cst dfs A hid G0 w0 l0 pf L ud (n + 1) listed G a w) (hp : pendOk ops l0 pf = true)
    (hcl : ∀ j ∈ pf, ∀ o d, ops[j]? = some o → o.dst = some d → isClean kb A d = true) (hal : ∀ j ∈ pf, ∀ o t d, ops[j]? = some o → o.op = .alloc t → o.dst = some d → ∀ z, ∃ A', evA tt kb z o.dst o.op = some (true, A'))
    (hhid : ∀ j ∈ pf, ∀ o d, ops[j]? = some o → o.dst = some d → kb + d ∉ hid)
    {Q : Exit → Act → World → Prop} {k : Nat} (hk : k ∈ ud) : wpOp P ops Q k (fun a' w' => ∃ G', FlSt P tt ops T kb F cst dfs A hid G0 w0 l0 pf L (ud.erase k) n (listed.setIfInBounds k true) G' a' w') a w := by
  obtain ⟨hkp, hkl⟩ := S.und k hk
  obtain ⟨hf, hu0⟩ := pendOk_spec hp k hkp
  obtain ⟨o, t, d, ho, hop, haf, hgd, hd, hall⟩ := floatOk_spec hf
  obtain ⟨A', hz⟩ := hal k hkp o t d ho hop hd A
  obtain ⟨cur, hrun, hcur, hzz, _⟩ := run_allocZ htt hop hd hz a w
  have hlt : k < l0.size := by
    rcases Nat.lt_or_ge k l0.size with h | h
    · exact h
    · rw [Array.getD_eq_getD_getElem?, Array.getElem?_eq_none h] at hu0; cases hu0
  unfold wpOp
  rw [ho]
  simp only
  rw [if_pos (by simp [Region.wanted, hgd])]
  refine .inl ?_
  unfold Oper.wp
  rw [hrun]
  simp only [Oper.upon]
  have hg := Grew.alloc w (.cells cur t)
  have go := Goes.newOb S.rel.gh hg (kb + d)
  have hh : (w.alloc (.cells cur t)).heap[w.heap.size]? = some (.cells cur t (0, 0)) := heap_alloc_new w _
  refine ⟨G.newOb (kb + d) w.heap.size, ⟨by simp [S.size], fun j hj => ?_, S.nodup.erase _, fun j hj => ?_, fun j hj hju => ?_, ?_, ?_, fun hT => ?_, (Act.put_defers' _ _ _).trans S.dfs⟩⟩
  · rw [Array.getElem?_setIfInBounds_ne (by rintro rfl; exact hj hkp)]; exact S.get j hj
  · have hjk : j ≠ k := by rintro rfl; exact absurd hj (by rw [S.nodup.mem_erase_iff]; simp)
    obtain ⟨h1, h2⟩ := S.und j (List.mem_of_mem_erase hj)
    exact ⟨h1, by rw [Array.getElem?_setIfInBounds_ne (Ne.symm hjk)]; exact h2⟩
  · by_cases hjk : j = k
    · subst hjk
      refine ⟨by simp [S.size, hlt], o, t, d, w.heap.size, cur, ho, hop, hd, by simp [Gh.newOb], fun u hu => ?_, hh, hcur⟩
      rw [hd] at hu
      simp only [Act.put, Array.getElem?_setIfInBounds_self] at hu
      split at hu
      · cases hu; rfl
      · cases hu
    · have hju' : j ∉ ud := fun h => hju (by rw [S.nodup.mem_erase_iff]; exact ⟨hjk, h⟩)
      obtain ⟨h1, h2⟩ := S.done j hj hju'
      refine ⟨getD_set_true h1, ?_⟩
      have h3 := h2.put (pendOk_spec hp j hj).1 ho (Ne.symm hjk) (.pointer (some ⟨w.heap.size, 0, none⟩))
      obtain ⟨o', t', d', b', cur', ho', g1, g2, g3, g4, g5, g6⟩ := h3
      have hdd : d' ≠ d := by rintro rfl; exact hall j o' hjk ho' g2
      exact ⟨o', t', d', b', cur', ho', g1, g2, by simp [Gh.newOb, hdd, g3], g4, (hg.old b' (S.rel.gh.mu _ b' g3).2.2).trans g5, g6⟩
  · have h1 := S.cnt
    have h2 : (ud.erase k).length + 1 = ud.length := by
      have := List.length_erase_of_mem hk
      have := List.length_pos_of_mem hk
      omega
    omega
  · have := S.rel.newFl hg (hkb d) (hcl k hkp o d ho hd) (.pointer (some ⟨w.heap.size, 0, none⟩))
    rw [hd]
    exact this
  · have h0 := S.hold fun j hj => by
      cases hh : listed.getD j false with
      | false => rfl
      | true => have := hT j hj; rw [getD_set_true hh] at this; cases this
    refine h0.step ⟨go.kept, fun key hkey b hb => ?_⟩
    have : key ≠ kb + d := by rintro rfl; exact hhid k hkp o d ho hd hkey
    exact ⟨by simp [Gh.newOb, this, hb], hg.old b (S.rel.gh.mu key b hb).2.2⟩

theorem ready_up {l0 listed : Array Bool} {pf : List Nat} (hp : pendOk ops l0 pf = true) (hg : ∀ k, k ∉ pf → listed[k]? = l0[k]?) {i : Nat} (hip : i ∉ pf) (hr : i ∈ Region.ready .any ops l0) : i ∈ Region.ready .any ops listed := by
  rw [mem_ready] at hr ⊢
  obtain ⟨h1, o', h2, h3⟩ := hr
  refine ⟨by rw [getD_of_get (hg i hip)]; exact h1, o', h2, fun e he hb => ?_⟩
  have h4 := h3 e he hb
  by_cases hep : e.on ∈ pf
  · have := (pendOk_spec hp _ hep).2
    rw [Array.getD_eq_getD_getElem?] at this h4
    cases hx : l0[e.on]? with
    | none => rw [hx] at this; cases this
    | some x => rw [hx] at this h4; simp at this h4; rw [this] at h4; cases h4
  · rw [getD_of_get (hg _ hep)]; exact h4
theorem pend_lt {l0 : Array Bool} {pf : List Nat} (hp : pendOk ops l0 pf = true) {j : Nat} (hj : j ∈ pf) : j < l0.size := by
  have := (pendOk_spec hp j hj).2
  rcases Nat.lt_or_ge j l0.size with h | h
  · exact h
  · rw [Array.getD_eq_getD_getElem?, Array.getElem?_eq_none h] at this; cases this
theorem ready_dn {l0 listed : Array Bool} {X : List Nat} {k : Nat} (hX : ∀ j ∈ X, j < l0.size) (hl : ∀ j, listed.getD j false = true → j ∈ X ∨ l0.getD j false = true) (hkX : k ∉ X) (hk : listed[k]? = l0[k]?) (hr : k ∈ Region.ready .any ops listed) :
    k ∈ Region.ready .any ops (addsL l0 X) := by
  rw [mem_ready] at hr ⊢
  obtain ⟨h1, o', h2, h3⟩ := hr
  refine ⟨?_, o', h2, fun e he hb => ?_⟩
  · rw [getD_of_get ((addsL_get X l0 k hkX).trans hk.symm)]; exact h1
  · rcases hl _ (h3 e he hb) with h | h
    · exact addsL_mem X l0 _ h (hX _ h)
    · exact addsL_true X l0 _ h
theorem not_ready {listed : Array Bool} {k : Nat} (h : listed.getD k false = true) : k ∉ Region.ready .any ops listed := by
  intro hr
  have h0 := (mem_ready.1 hr).1
  rw [Array.getD_eq_getD_getElem?] at h h0
  cases hx : listed[k]? with
  | none => rw [hx] at h0; cases h0
  | some x => rw [hx] at h h0; simp at h h0; rw [h] at h0; cases h0
theorem FlSt.next {kb : Nat} {F : Fra} {cst : List (Array Value)} {dfs : List Deferred} {A A' : AS} {hid hid' : List Nat} {G0 : Gh} {w0 : World} {l0 : Array Bool} {pf : List Nat} {L : Nat}
    {ud : List Nat} {n : Nat} {listed : Array Bool} {G G' : Gh} {a : Act} {w w' : World} (S : FlSt P tt ops T kb F cst dfs A hid G0 w0 l0 pf (L + 1) ud (n + 1) listed G a w) {i : Nat} {o : Oper} (ho : ops[i]? = some o) (hip : i ∉ pf)
    (hpe : pendOk ops l0 pf = true) {u : Value} {ks : List Nat} (hk : ∀ j ∈ pf, ∀ o d, ops[j]? = some o → o.dst = some d → kb + d ∈ ks) (hu : UntH G ks w G' w') (hR : Rel F G' A' (a.put o.dst u).tmps cst w')
    (hold : (∀ j ∈ T, listed.getD j false = false) → Hold G0 w0 hid' G' w') :
    FlSt P tt ops T kb F cst dfs A' hid' G0 w0 (l0.setIfInBounds i true) pf L ud n (listed.setIfInBounds i true) G' (a.put o.dst u) w' := by
  refine ⟨by simp [S.size], fun k hk => ?_, S.nodup, fun j hj => ?_, fun j hj hju => ?_, ?_, hR, fun hT' => ?_, (Act.put_defers' _ _ _).trans S.dfs⟩
  · by_cases hki : k = i
    · rw [hki, Array.getElem?_setIfInBounds_self, Array.getElem?_setIfInBounds_self, S.size]
    · rw [Array.getElem?_setIfInBounds_ne (Ne.symm hki), Array.getElem?_setIfInBounds_ne (Ne.symm hki)]; exact S.get k hk
  · obtain ⟨h1, h2⟩ := S.und j hj
    have hji : i ≠ j := by rintro rfl; exact hip h1
    exact ⟨h1, by rw [Array.getElem?_setIfInBounds_ne hji, Array.getElem?_setIfInBounds_ne hji]; exact h2⟩
  · obtain ⟨h1, h2⟩ := S.done j hj hju
    exact ⟨getD_set_true h1, (h2.unt (hk j hj) hu).put (pendOk_spec hpe j hj).1 ho (by rintro rfl; exact hip hj) u⟩
  · have := S.cnt; omega
  · exact hold fun j hj => by
      cases hh : listed.getD j false with
      | false => rfl
      | true => have := hT' j hj; rw [getD_set_true hh] at this; cases this

theorem evD_sound (htt : TTok P tt) {hd : Hd} (hh : HdOk P hd) (hs : Region.noSelect ops = true) {R : Type} {F : Fra} {cst : List (Array Value)} {kb : Nat} (hkb : ∀ d, F.mu0 (kb + d) = none) {r : R} {Q : Exit → Act → World → Prop} {G0 : Gh} {w0 : World} :
    ∀ (is : List (Nat × Nat)) {ph : Bool} {l0 listed : Array Bool} {ud : List Nat} {n : Nat} {hid : List Nat} {G : Gh} {A : AS} {a : Act} {w : World} {K : Ex → AS → Option R} {dfs : List Deferred},
    chkD tt ops T ph l0 is = true → evD tt hd kb ops is hid A K = some r → Post F cst dfs r K Q →
    FlSt P tt ops T kb F cst dfs A hid G0 w0 l0 (pfO is) is.length ud n listed G a w → (ph = true → G = G0 ∧ w = w0) →
    wpAnyL P .any ops (Qh ops Q) T (Agr (· ∈ hid) G0 w0) n listed a w
  | [], ph, l0, listed, ud, n, hid, G, A, a, w, K, dfs, hc, h, hK, S, hph => by
    simp only [chkD, List.isEmpty_iff] at hc
    have hud : ud = [] := by
      cases ud with
      | nil => rfl
      | cons x xs => exact absurd (S.und x (by simp)).1 (by simp [pfO])
    have hn : n = 0 := by have := S.cnt; subst hud; simp [pfO] at this; exact this
    have hl : listed = l0 := Array.ext_getElem? fun k => S.get k (by simp [pfO])
    subst hn hl
    exact ⟨hc, hK .normal A G a w S.rel S.dfs h⟩
  | (i, m) :: is, ph, l0, listed, ud, n, hid, G, A, a, w, K, dfs, hc, h, hK, S, hph => by
    obtain rfl := S.dfs
    simp only [evD] at h
    cases ho : ops[i]? with
    | none => rw [ho] at h; cases h
    | some o =>
      rw [ho] at h
      simp only at h
      have hpl := pfO_len is
      -- quiet steps
      have quiet : ∀ (hid' : List Nat), pfO ((i, m) :: is) = pfO is → quietOk ops T l0 i = true → (!(pfO is).contains i && pendOk ops l0 (pfO is)) = true → (∀ w', Agr (· ∈ hid') G0 w0 w' → Agr (· ∈ hid) G0 w0 w') → ((∀ j ∈ T, listed.getD j false = false) → Hold G0 w0 hid' G w) →
          ∀ v, YieldsIf P ops (Agr (· ∈ hid') G0 w0) o v a → ∀ A', Rel F G A' (a.put o.dst v).tmps cst w →
          (∀ n', FlSt P tt ops T kb F cst (a.put o.dst v).defers A' hid' G0 w0 (l0.setIfInBounds i true) (pfO is) is.length ud n' (listed.setIfInBounds i true) G (a.put o.dst v) w → wpAnyL P .any ops (Qh ops Q) T (Agr (· ∈ hid') G0 w0) n' (listed.setIfInBounds i true) (a.put o.dst v) w) →
          wpAnyL P .any ops (Qh ops Q) T (Agr (· ∈ hid) G0 w0) n listed a w := by
        intro hid' hpf hq hpe hm hA v hy A' hR hrest
        rw [hpf] at S
        simp only [Bool.and_eq_true, Bool.not_eq_true', List.contains_eq_mem, decide_eq_false_iff_not] at hpe
        obtain ⟨hip, hpe⟩ := hpe
        simp only [quietOk, Bool.and_eq_true, List.all_eq_true, Bool.not_eq_true', beq_eq_false_iff_ne, waitsOn, List.any_eq_true, beq_iff_eq, exists_eq_right] at hq
        obtain ⟨hf, hr, hT, hZ⟩ := hq
        have hnZ : ∀ j ∈ depsOn ops i, j ∉ pfO is := fun j hj hjp => by
          obtain ⟨o', t, d, ho', _, haf, _⟩ := floatOk_spec (pendOk_spec hpe j hjp).1
          obtain ⟨e, he, _⟩ := depsOn_spec ops i j hj o' ho'
          rw [haf] at he; simp at he
        have hZl : ∀ j ∈ depsOn ops i, listed.getD j false = false := fun j hj => by rw [getD_of_get (S.get j (hnZ j hj))]; exact (hZ j hj).2
        have hir : i ∈ Region.ready .any ops listed := by
          have hr' : i ∈ Region.ready .any ops l0 := by simpa using hr
          rw [mem_ready] at hr' ⊢
          obtain ⟨h1, o', h2, h3⟩ := hr'
          refine ⟨by rw [getD_of_get (S.get i hip)]; exact h1, o', h2, fun e he hb => ?_⟩
          have h4 := h3 e he hb
          by_cases hep : e.on ∈ pfO is
          · have := (pendOk_spec hpe _ hep).2
            rw [Array.getD_eq_getD_getElem?] at this h4
            cases hx : l0[e.on]? with
            | none => rw [hx] at this; cases this
            | some x => rw [hx] at this h4; simp at this h4; rw [this] at h4; cases h4
          · rw [getD_of_get (S.get _ hep)]; exact h4
        obtain ⟨n', rfl⟩ : ∃ n', n = n' + 1 := ⟨n - 1, by have := S.cnt; simp only [List.length_cons] at this; omega⟩
        refine (wpAnyL.first ho (Region.noSelect_spec hs) (fun c a w => Qh.put ho v c a w) hT (fun j hj => ⟨(hZ j hj).1, depsOn_spec ops i j hj⟩) n' listed a w (fun j oj hoj hji hjl hjd => ?_) hir hy
          (hA fun j hj => hZl j (hT j hj)).agr hZl (hrest n' ⟨by simp [S.size], fun k hk => ?_, S.nodup, fun j hj => ?_, fun j hj hju => ?_, ?_, hR, fun hT' => ?_, rfl⟩)).weaken hm
        · refine Region.free_spec ho hf j oj hoj hji ?_ hjd
          by_cases hjp : j ∈ pfO is
          · exact (pendOk_spec hpe j hjp).2
          · rw [← getD_of_get (S.get j hjp)]; exact hjl
        · by_cases hki : k = i
          · rw [hki, Array.getElem?_setIfInBounds_self, Array.getElem?_setIfInBounds_self, S.size]
          · rw [Array.getElem?_setIfInBounds_ne (Ne.symm hki), Array.getElem?_setIfInBounds_ne (Ne.symm hki)]; exact S.get k hk
        · obtain ⟨h1, h2⟩ := S.und j hj
          have hji : i ≠ j := by rintro rfl; exact hip h1
          exact ⟨h1, by rw [Array.getElem?_setIfInBounds_ne hji, Array.getElem?_setIfInBounds_ne hji]; exact h2⟩
        · obtain ⟨h1, h2⟩ := S.done j hj hju
          exact ⟨getD_set_true h1, h2.put (pendOk_spec hpe j hj).1 ho (by rintro rfl; exact hip hj) v⟩
        · have h1 := S.cnt; have h2 : ((i, m) :: is).length = is.length + 1 := List.length_cons; omega
        · exact hA fun j hj => by
            cases hh : listed.getD j false with
            | false => rfl
            | true => have := hT' j hj; rw [getD_set_true hh] at this; cases this
      have hset : ∀ j ∈ T, j ≠ i → (listed.setIfInBounds i true).getD j false = listed.getD j false := fun j _ hne => getD_set_ne false (Ne.symm hne)
      -- steps that come alone
      have sole : ∀ (hid' : List Nat), pfO is = [] → pfO ((i, m) :: is) = pfO is → soleOk ops l0 i = true → (∀ (a' : Act) (w' : World) (G' : Gh) (A' : AS), Rel F G' A' a'.tmps cst w' → a'.defers = a.defers → UntH G hid' w G' w' → evD tt hd kb ops is hid A' K = some r →
            Held T (Agr (· ∈ hid) G0 w0) (listed.setIfInBounds i true) w' ∧ (Hold G0 w0 hid G' w' ∨ ¬ ∀ j ∈ T, (listed.setIfInBounds i true).getD j false = false)) →
          chkD tt ops T false (l0.setIfInBounds i true) is = true →
          guarded ops o A (fun A => evOp tt hd kb hid' o A fun ex A' => match ex with
            | .normal => evD tt hd kb ops is hid A' K
            | .panic v => K (.panic v) { A' with tm := maskN (dstMask ops) 0 A'.tm }
            | ex => K ex A') (fun A => evD tt hd kb ops is hid A K) = some r →
          wpAnyL P .any ops (Qh ops Q) T (Agr (· ∈ hid) G0 w0) n listed a w := by
        intro hid' hpe hpf hs1 hho hc hgd
        rw [hpf, hpe] at S
        have hud : ud = [] := by
          cases ud with
          | nil => rfl
          | cons x xs => exact absurd (S.und x (by simp)).1 (by simp)
        have hn : n = is.length + 1 := by have := S.cnt; subst hud; simp at this; exact this
        have hl : listed = l0 := Array.ext_getElem? fun k => S.get k (by simp)
        subst hn hl hud
        have hr : Region.ready .any ops listed = [i] := by
          unfold soleOk at hs1
          split at hs1
          · rename_i j e
            rw [e, beq_iff_eq.1 hs1]
          · cases hs1
        have hrest : ∀ (a' : Act) (w' : World) (G' : Gh) (A' : AS), Rel F G' A' a'.tmps cst w' → a'.defers = a.defers → UntH G hid' w G' w' → evD tt hd kb ops is hid A' K = some r →
            Held T (Agr (· ∈ hid) G0 w0) (listed.setIfInBounds i true) w' ∧ wpAnyL P .any ops (Qh ops Q) T (Agr (· ∈ hid) G0 w0) is.length (listed.setIfInBounds i true) a' w' := by
          intro a' w' G' A' hR hd' hu hk
          obtain ⟨h1, h2⟩ := hho a' w' G' A' hR hd' hu hk
          refine ⟨h1, evD_sound htt hh hs hkb is hc hk hK ⟨rfl, fun _ _ => rfl, S.nodup, fun j hj => (by cases hj), fun j hj => (by rw [hpe] at hj; cases hj), (by rw [hpe]), hR, fun hT => h2.resolve_right fun h => h hT, hd'⟩ fun e => by cases e⟩
        refine ⟨fun e => (by rw [e] at hr; cases hr), fun j hj => ?_⟩
        rw [hr, List.mem_singleton] at hj
        subst hj
        unfold wpOp
        rw [ho]
        simp only
        rcases guarded_cases S.rel hgd with ⟨hw, A1, R1, h1⟩ | ⟨hw, A1, R1, h1⟩
        · rw [if_pos hw]
          refine .inl (evOp_sound htt hh R1 hkb hid' o h1 ?_)
          intro ex A' G' a' w' R' hd' hk
          cases ex with
          | normal => exact fun hu => hrest a' w' G' A' R' hd' hu.1 hk
          | exit id => exact hK _ A' G' a' w' R' hd' hk
          | ret => exact hK _ A' G' a' w' R' hd' hk
          | panic v => exact fun u hu => Qh.post hK R' hd' hk u hu
        · rw [if_neg (by simp [hw])]
          exact hrest _ w G A1 R1 (Act.put_defers' _ _ _) (.refl _ _ _) h1
      match m, hc, h with
      | 0, hc, h =>
        simp only [chkD, Bool.and_eq_true] at hc
        obtain ⟨⟨⟨hq, hrd⟩, hpe⟩, hc⟩ := hc
        have hrd' : isRead tt o.op = false := by simpa [readOk, ho] using hrd
        rcases guarded_cases S.rel h with ⟨hw, A1, R1, h1⟩ | ⟨hw, A1, R1, h1⟩
        · split at h1
          · rename_i chk v hv
            cases chk with
            | false => cases h1
            | true =>
              simp only [cond_true, AS.putK_eq] at h1
              obtain ⟨u, hu, hr⟩ := evP_all (H := fun _ => True) htt (fun x => R1.opd x) R1.ob o hv rfl fun _ _ _ _ _ _ => trivial
              refine quiet hid rfl hq (by simpa using hpe) (fun _ h => h) S.hold u (.inl ⟨hw, fun w' _ => hu w' fun e => by rw [hrd'] at e; cases e⟩) _ (R1.puts hr o.dst) fun n' S' => ?_
              exact evD_sound htt hh hs hkb is hc h1 (by rw [Act.put_defers']; exact hK) S' hph
          · cases h1
        · refine quiet hid rfl hq (by simpa using hpe) (fun _ h => h) S.hold undef (.inr ⟨hw, rfl⟩) _ R1 fun n' S' => ?_
          exact evD_sound htt hh hs hkb is hc h1 (by rw [Act.put_defers']; exact hK) S' hph
      | 1, hc, h =>
        simp only [chkD, Bool.and_eq_true] at hc
        obtain ⟨⟨⟨hq, rfl⟩, hpe⟩, hc⟩ := hc
        obtain ⟨rfl, rfl⟩ := hph rfl
        rcases guarded_cases S.rel h with ⟨hw, A1, R1, h1⟩ | ⟨hw, A1, R1, h1⟩
        · split at h1
          · rename_i chk v hv
            cases chk with
            | false => cases h1
            | true =>
              simp only [cond_true, AS.putK_eq] at h1
              obtain ⟨u, hu, hr⟩ := evP_all (H := (· ∈ loadKey A1 o.op ++ hid)) htt (fun x => R1.opd x) R1.ob o hv rfl fun t x k j e1 e2 => by
                rw [e1]; simp only [loadKey, e2]; simp
              refine quiet (loadKey A1 o.op ++ hid) rfl hq (by simpa using hpe) (fun w' h => ⟨h.1, fun key b hk hb => h.2 key b (List.mem_append_right _ hk) hb⟩) (fun _ => ⟨fun _ _ h => h, fun _ _ _ h => h, Agr.refl _ _ _⟩) u (.inl ⟨hw, fun w' h' => hu w' fun _ => h'⟩) _ (R1.puts hr o.dst) fun n' S' => ?_
              exact evD_sound htt hh hs hkb is hc h1 (by rw [Act.put_defers']; exact hK) S' fun _ => ⟨rfl, rfl⟩
          · cases h1
        · refine quiet hid rfl hq (by simpa using hpe) (fun _ h => h) S.hold undef (.inr ⟨hw, rfl⟩) _ R1 fun n' S' => ?_
          exact evD_sound htt hh hs hkb is hc h1 (by rw [Act.put_defers']; exact hK) S' fun _ => ⟨rfl, rfl⟩
      | 2, hc, h =>
        simp only [chkD, Bool.and_eq_true, List.all_eq_true, Bool.not_eq_true', beq_eq_false_iff_ne, List.isEmpty_iff] at hc
        obtain ⟨⟨⟨hso, hiT⟩, hpe⟩, hc⟩ := hc
        refine sole hid hpe rfl hso (fun a' w' G' A' R' hd' hu hk => ?_) hc h
        have hold : (∀ j ∈ T, (listed.setIfInBounds i true).getD j false = false) → Hold G0 w0 hid G' w' := fun hT => (S.hold fun j hj => by rw [← hset j hj (hiT j hj)]; exact hT j hj).step hu
        exact ⟨fun hT => (hold hT).agr, (Classical.em _).imp hold id⟩
      | n0 + 3, hc, h =>
        simp only [chkD] at hc
        rename_i hx0
        clear hx0
        simp only [AS.force_eq] at h
        cases h4 : Nat.beq n0 1 with
        | true =>
          obtain rfl : n0 = 1 := Nat.eq_of_beq_eq_true h4
          rw [h4] at hc h
          simp only [cond_true, Bool.and_eq_true, Bool.not_eq_true', List.contains_eq_mem, decide_eq_false_iff_not] at hc
          obtain ⟨⟨⟨hip, hpe⟩, hso⟩, hc⟩ := hc
          have hpf : pfO ((i, 1 + 3) :: is) = i :: pfO is := rfl
          simp only [cond_true] at h
          cases hcl : (alOk tt ops ((i, 4) :: is) && (flD ops ((i, 4) :: is)).all (isClean kb (cleanD kb (flD ops ((i, 4) :: is)) A))) && !(hid.any fun k => (flD ops ((i, 4) :: is)).any fun d => k == kb + d) with
          | false => rw [hcl] at h; cases h
          | true =>
            rw [hcl] at h
            simp only [cond_true] at h
            have S1 : FlSt P tt ops T kb F cst a.defers (cleanD kb (flD ops ((i, 4) :: is)) A) hid G0 w0 l0 (pfO ((i, 1 + 3) :: is)) ((i, 1 + 3) :: is).length ud n listed G a w := { S with rel := S.rel.clean _ }
            generalize cleanD kb (flD ops ((i, 4) :: is)) A = A1 at h hcl S1
            clear S
            simp only [Bool.and_eq_true, Bool.not_eq_true', List.all_eq_true, List.any_eq_false, List.any_eq_true, beq_iff_eq, not_exists, not_and] at hcl
            cases hA : evA tt kb A1 o.dst o.op with
            | none => rw [hA] at h; cases h
            | some p =>
              obtain ⟨chk, A'⟩ := p
              rw [hA] at h
              cases chk with
              | false => cases h
              | true =>
                simp only [cond_true] at h
                have hpall := pendOk_spec hpe
                have key : ∀ (N : Nat) (ud : List Nat) (n : Nat) (listed : Array Bool) (G : Gh) (a' : Act) (w : World), ud.length = N →
                    FlSt P tt ops T kb F cst a.defers A1 hid G0 w0 l0 (i :: pfO is) (is.length + 1) ud n listed G a' w → wpAnyL P .any ops (Qh ops Q) T (Agr (· ∈ hid) G0 w0) n listed a' w := by
                  intro N
                  induction N using Nat.strongRecOn with
                  | ind N ih =>
                  intro ud n listed G a' w hN S
                  by_cases hiu : i ∈ ud
                  · have hlen := List.length_pos_of_mem hiu
                    obtain ⟨n', rfl⟩ : ∃ n', n = n' + 1 := ⟨n - 1, by have := S.cnt; simp only [List.length_cons] at this; omega⟩
                    have hir : i ∈ Region.ready .any ops listed := by
                      obtain ⟨o', t, d, ho', _, haf, _⟩ := floatOk_spec (hpall i (by simp)).1
                      rw [mem_ready]
                      refine ⟨by rw [getD_of_get (S.und i hiu).2]; exact (hpall i (by simp)).2, o', ho', fun e he => by rw [haf] at he; simp at he⟩
                    refine ⟨fun e => (by rw [e] at hir; cases hir), fun k hk => ?_⟩
                    by_cases hku : k ∈ ud
                    · refine wpOp_mono (fun a'' w'' ⟨G', S'⟩ => ⟨fun hT => (S'.hold hT).agr, ih _ ?_ _ _ _ _ _ _ rfl S'⟩) (S.fl htt hkb hpe (fun j hj o' d ho' hd' => hcl.1.2 d (flD_pfO ((i, 4) :: is) hj ho' hd')) (fun j hj => alOk_pfO ((i, 4) :: is) hcl.1.1 hj) (fun j hj o' d ho' hd' hin => hcl.2 _ hin d (flD_pfO ((i, 4) :: is) hj ho' hd') rfl) hku)
                      rw [List.length_erase_of_mem hku]; have := List.length_pos_of_mem hku; omega
                    · exfalso
                      have hkp : k ∉ i :: pfO is := fun h => not_ready (S.done k h hku).1 hk
                      have := ready_dn (X := pfO is) (l0 := l0) (fun j hj => pend_lt hpe (List.mem_cons_of_mem _ hj)) (fun j hj => ?_) (fun h => hkp (List.mem_cons_of_mem _ h)) (S.get k hkp) hk
                      · have := List.all_eq_true.1 hso k this
                        exact hkp (by rw [beq_iff_eq.1 this]; simp)
                      · by_cases hjp : j ∈ i :: pfO is
                        · rcases List.mem_cons.1 hjp with rfl | h
                          · rw [getD_of_get (S.und j hiu).2] at hj; exact .inr hj
                          · exact .inl h
                        · rw [getD_of_get (S.get j hjp)] at hj; exact .inr hj
                  · obtain ⟨hli, o', t, d, b, cur, ho', hop, hd', hmu, htm, hhp, hcz⟩ := S.done i (by simp) hiu
                    rw [ho] at ho'; cases ho'
                    obtain ⟨_, _, _, hzz, eA⟩ := run_allocZ htt hop hd' hA a' w
                    subst eA
                    refine evD_sound htt hh hs hkb is hc h hK ⟨by simp [S.size], fun k hk => ?_, S.nodup, fun j hj => ?_, fun j hj hju => S.done j (by simp [hj]) hju, ?_, S.rel.found hmu htm hhp hcz hzz, S.hold, S.dfs⟩ fun e => by cases e
                    · by_cases hki : k = i
                      · have hlt := pend_lt hpe (j := i) (by simp)
                        rw [hki, Array.getElem?_setIfInBounds_self, if_pos hlt]
                        rw [Array.getD_eq_getD_getElem?] at hli
                        cases hx : listed[i]? with
                        | none => rw [hx] at hli; cases hli
                        | some x => rw [hx] at hli; simp at hli; rw [hli]
                      · rw [Array.getElem?_setIfInBounds_ne (Ne.symm hki)]
                        exact S.get k (by simp [hki, hk])
                    · obtain ⟨h1, h2⟩ := S.und j hj
                      have hji : j ≠ i := by rintro rfl; exact hiu hj
                      refine ⟨(List.mem_cons.1 h1).resolve_left hji, ?_⟩
                      rw [Array.getElem?_setIfInBounds_ne (Ne.symm hji)]; exact h2
                    · have := S.cnt; simp only [List.length_cons] at this; omega
                exact key _ ud n listed G a w rfl S1
        | false =>
          rw [h4] at hc h
          simp only [cond_false] at hc h
          cases h6 : Nat.beq n0 3 with
          | true =>
            obtain rfl : n0 = 3 := Nat.eq_of_beq_eq_true h6
            rw [h6] at hc h
            simp only [cond_true, Bool.and_eq_true, Bool.not_eq_true', List.contains_eq_mem, decide_eq_false_iff_not, List.all_eq_true, beq_eq_false_iff_ne] at hc
            obtain ⟨⟨⟨hso, hiT⟩, hip, hpe⟩, hc⟩ := hc
            have hpf : pfO ((i, 3 + 3) :: is) = pfO is := rfl
            simp only [cond_true] at h
            cases hcl : (alOk tt ops is && (flD ops is).all (isClean kb (cleanD kb (flD ops is) A))) && !(hid.any fun k => (flD ops is).any fun d => k == kb + d) with
            | false => rw [hcl] at h; cases h
            | true =>
              rw [hcl] at h
              simp only [cond_true] at h
              have S1 : FlSt P tt ops T kb F cst a.defers (cleanD kb (flD ops is) A) hid G0 w0 l0 (pfO ((i, 3 + 3) :: is)) ((i, 3 + 3) :: is).length ud n listed G a w := { S with rel := S.rel.clean _ }
              generalize cleanD kb (flD ops is) A = A1 at h hcl S1
              clear S
              simp only [Bool.and_eq_true, Bool.not_eq_true', List.all_eq_true, List.any_eq_false, List.any_eq_true, beq_iff_eq, not_exists, not_and] at hcl
              have hpall := pendOk_spec hpe
              simp only [soleF, Bool.and_eq_true, List.contains_eq_mem, decide_eq_true_eq, List.all_eq_true, beq_iff_eq] at hso
              have key : ∀ (N : Nat) (ud : List Nat) (n : Nat) (listed : Array Bool) (G : Gh) (a' : Act) (w : World), ud.length = N →
                  FlSt P tt ops T kb F cst a.defers A1 hid G0 w0 l0 (pfO is) (is.length + 1) ud n listed G a' w → wpAnyL P .any ops (Qh ops Q) T (Agr (· ∈ hid) G0 w0) n listed a' w := by
                intro N
                induction N using Nat.strongRecOn with
                | ind N ih =>
                intro ud n listed G a' w hN S
                obtain ⟨n', rfl⟩ : ∃ n', n = n' + 1 := ⟨n - 1, by have := S.cnt; omega⟩
                have hir : i ∈ Region.ready .any ops listed := ready_up hpe S.get hip hso.1
                refine ⟨fun e => (by rw [e] at hir; cases hir), fun k hk => ?_⟩
                by_cases hku : k ∈ ud
                · refine wpOp_mono (fun a'' w'' ⟨G', S'⟩ => ⟨fun hT => (S'.hold hT).agr, ih _ ?_ _ _ _ _ _ _ rfl S'⟩) (S.fl htt hkb hpe (fun j hj o' d ho' hd' => hcl.1.2 d (flD_pfO is hj ho' hd')) (fun j hj => alOk_pfO is hcl.1.1 hj) (fun j hj o' d ho' hd' hin => hcl.2 _ hin d (flD_pfO is hj ho' hd') rfl) hku)
                  rw [List.length_erase_of_mem hku]; have := List.length_pos_of_mem hku; omega
                · have hkp : k ∉ pfO is := fun h => not_ready (S.done k h hku).1 hk
                  have hki := ready_dn (X := pfO is) (l0 := l0) (fun j hj => pend_lt hpe hj) (fun j hj => by
                    by_cases hjp : j ∈ pfO is
                    · exact .inl hjp
                    · rw [getD_of_get (S.get j hjp)] at hj; exact .inr hj) hkp (S.get k hkp) hk
                  obtain rfl := hso.2 k hki
                  have hset' : ∀ j ∈ T, j ≠ k → (listed.setIfInBounds k true).getD j false = listed.getD j false := fun j _ hne => getD_set_ne false (Ne.symm hne)
                  have hrest : ∀ (u : Value) (w' : World) (G' : Gh) (A' : AS), Rel F G' A' (a'.put o.dst u).tmps cst w' → UntH G ((flD ops is).map (kb + ·) ++ hid) w G' w' → evD tt hd kb ops is hid A' K = some r →
                      Held T (Agr (· ∈ hid) G0 w0) (listed.setIfInBounds k true) w' ∧ wpAnyL P .any ops (Qh ops Q) T (Agr (· ∈ hid) G0 w0) n' (listed.setIfInBounds k true) (a'.put o.dst u) w' := by
                    intro u w' G' A' hR hu hk'
                    have hold : (∀ j ∈ T, listed.getD j false = false) → Hold G0 w0 hid G' w' := fun hT => (S.hold hT).step ⟨hu.1, fun key hkey => hu.2 key (List.mem_append_right _ hkey)⟩
                    refine ⟨fun hT => (hold fun j hj => by rw [← hset' j hj (hiT j hj)]; exact hT j hj).agr, ?_⟩
                    refine evD_sound htt hh hs hkb is hc hk' hK (S.next ho hip hpe (fun j hj o' d ho' hd' => List.mem_append_left _ (List.mem_map_of_mem (flD_pfO is hj ho' hd'))) hu hR hold) fun e => by cases e
                  unfold wpOp
                  rw [ho]
                  simp only
                  rcases guarded_cases S.rel h with ⟨hw, A2, R2, h2⟩ | ⟨hw, A2, R2, h2⟩
                  · rw [if_pos hw]
                    refine .inl (evOp_sound htt hh R2 hkb _ o h2 ?_)
                    intro ex A' G' a'' w' R' hd' hk'
                    cases ex with
                    | normal =>
                      rintro ⟨hu, u, rfl⟩
                      exact hrest u w' G' A' R' hu hk'
                    | exit id => exact hK _ A' G' a'' w' R' (hd'.trans S.dfs) hk'
                    | ret => exact hK _ A' G' a'' w' R' (hd'.trans S.dfs) hk'
                    | panic v => exact fun u hu => Qh.post hK R' (hd'.trans S.dfs) hk' u hu
                  · rw [if_neg (by simp [hw])]
                    exact hrest undef w G A2 R2 (.refl _ _ _) h2
              exact key _ ud n listed G a w rfl S1
          | false =>
            rw [h6] at hc h
            simp only [cond_false, Bool.and_eq_true, List.any_eq_true, beq_iff_eq, exists_eq_right, decide_eq_true_eq, List.isEmpty_iff] at hc h
            obtain ⟨⟨⟨hso, hiT, hil⟩, hpe⟩, hc⟩ := hc
            have hpf : pfO ((i, n0 + 3) :: is) = pfO is := by
              have : Nat.beq (n0 + 3) 4 = Nat.beq n0 1 := rfl
              rw [pfO, this, h4]; rfl
            have hlsz : i < listed.size := by rw [S.size]; exact hil
            have hno : ¬ ∀ j ∈ T, (listed.setIfInBounds i true).getD j false = false := fun hT => by
              have := hT i hiT
              simp [hlsz] at this
            exact sole [] hpe hpf hso (fun a' w' G' A' R' hd' hu hk => ⟨fun hT => absurd hT hno, .inr hno⟩) hc h

/-! ### finding an order -/
def quietOp (tt : TT) : Op → Bool
  | .move _ | .nilCheck _ | .binOp .. | .unOp .. | .fieldAddr .. | .field .. | .indexAddr .. | .index .. | .slice .. | .load .. | .extract .. | .build .. | .makeInterface .. | .makeFunc .. => true
  | .convert _ d _ => match (tt.at d).d with | .sl _ => false | _ => true
  | .call c => match c.callee with | .builtin .len => true | .builtin .min => true | .builtin .max => true | _ => false
  | _ => false
def greedyD (tt : TT) (ops : Array Oper) (t0 : Nat) : Nat → Bool → Array Bool → List (Nat × Nat)
  | 0, _, _ => []
  | n + 1, ph, listed =>
    let rd := Region.ready .any ops listed
    match rd.find? fun i => Nat.blt i t0 && (match ops[i]? with | some o => quietOp tt o.op && (ph || !isRead tt o.op) | none => false) with
    | some i => (i, bif readOk tt ops i then 0 else 1) :: greedyD tt ops t0 n ph (listed.setIfInBounds i true)
    | none => match rd with
      | i :: _ => (i, bif Nat.blt i t0 then 2 else 3) :: greedyD tt ops t0 n false (listed.setIfInBounds i true)
      | [] => []
/-- As greedyD, where the allocs of fl wait until nothing else may come. -/
def greedyF (tt : TT) (ops : Array Oper) (t0 : Nat) (fl : List Nat) : Nat → Bool → Array Bool → List (Nat × Nat)
  | 0, _, _ => []
  | n + 1, ph, listed =>
    let rd := (Region.ready .any ops listed).filter fun i => !fl.contains i
    match rd.find? fun i => Nat.blt i t0 && (match ops[i]? with | some o => quietOp tt o.op && (ph || !isRead tt o.op) | none => false) with
    | some i => (i, bif readOk tt ops i then 0 else 1) :: greedyF tt ops t0 fl n ph (listed.setIfInBounds i true)
    | none => match rd with
      | i :: _ => (i, bif Nat.blt i t0 then (bif fl.all fun j => listed.getD j false then 2 else 6) else 3) :: greedyF tt ops t0 fl n false (listed.setIfInBounds i true)
      | [] => match fl.find? fun j => !listed.getD j true with
        | some j => (j, 4) :: greedyF tt ops t0 fl n false (listed.setIfInBounds j true)
        | none => []
/-- The last ones, each of which waits for all that stand ahead of it. -/
def tailD (ops : Array Oper) : Nat → Nat
  | 0 => 0
  | t + 1 => bif (List.range t).all fun i => waitsOn ops t i then tailD ops t else t + 1
def orderIs (tt : TT) (ops : Array Oper) (t0 : Nat) (is : List (Nat × Nat)) : Option (List (Nat × Nat)) :=
  bif Region.noSelect ops && (is.length == ops.size && (nodupB (pfO is) && chkD tt ops ((List.range (ops.size - t0)).map (t0 + ·)) true (Array.replicate ops.size false) is)) then some is else none
def orderAt (tt : TT) (t0 : Nat) : Dr := fun ops =>
  match orderIs tt ops t0 (greedyD tt ops t0 ops.size true (Array.replicate ops.size false)) with
  | some is => some is
  | none => orderIs tt ops t0 (greedyF tt ops t0 ((List.range ops.size).filter (floatOk ops)) ops.size true (Array.replicate ops.size false))
def orderD (tt : TT) : Dr := fun ops => orderAt tt (tailD ops ops.size) ops

theorem nodupB_nodup : ∀ l : List Nat, nodupB l = true → l.Nodup
  | [], _ => List.nodup_nil
  | x :: xs, h => by
    simp only [nodupB, Bool.and_eq_true, Bool.not_eq_true', List.any_eq_false, beq_iff_eq] at h
    exact List.nodup_cons.2 ⟨fun hx => h.1 x hx rfl, nodupB_nodup xs h.2⟩
theorem orderIs_ok (htt : TTok P tt) {hd : Hd} (hh : HdOk P hd) {R : Type} {F : Fra} {cst : List (Array Value)} {kb : Nat} {ops : Array Oper} {is' is : List (Nat × Nat)} {r : R} {Q : Exit → Act → World → Prop} {G : Gh} {A : AS} {a : Act} {w : World} {K : Ex → AS → Option R}
    (hkb : ∀ d, F.mu0 (kb + d) = none) {t0 : Nat} (ho : orderIs tt ops t0 is' = some is) (h : evD tt hd kb ops is [] A K = some r) (Rl : Rel F G A a.tmps cst w) (hK : Post F cst a.defers r K Q) :
    wpAny P .any ops Q ops.size (Array.replicate ops.size false) a { w with drawn := w.drawn + 1 } := by
  unfold orderIs at ho
  cases hc : Region.noSelect ops && (is'.length == ops.size && (nodupB (pfO is') && chkD tt ops ((List.range (ops.size - t0)).map (t0 + ·)) true (Array.replicate ops.size false) is')) with
  | false => rw [hc] at ho; cases ho
  | true =>
    rw [hc] at ho
    simp only [cond_true, Option.some.injEq] at ho
    subst ho
    simp only [Bool.and_eq_true, beq_iff_eq] at hc
    obtain ⟨hs, hl, hnd, hc⟩ := hc
    have Rl' : Rel F G A a.tmps cst { w with drawn := w.drawn + 1 } := Rl.drew
    have := evD_sound (T := (List.range (ops.size - t0)).map (t0 + ·)) (G0 := G) (w0 := { w with drawn := w.drawn + 1 }) (ud := pfO is') (n := is'.length) (listed := Array.replicate ops.size false) htt hh hs hkb is' hc h hK
      ⟨rfl, fun _ _ => rfl, nodupB_nodup _ hnd, fun j hj => ⟨hj, rfl⟩, fun j hj h => absurd hj h, rfl, Rl', fun _ => ⟨fun _ _ h => h, fun _ _ _ h => h, Agr.refl _ _ _⟩, rfl⟩ fun _ => ⟨rfl, rfl⟩
    rw [hl] at this
    exact wpAny_monoQ (fun e a w => Qh.of) _ (wpAnyL.any _ this)
theorem orderAt_ok (htt : TTok P tt) {hd : Hd} (hh : HdOk P hd) {R : Type} {F : Fra} {cst : List (Array Value)} {kb : Nat} {ops : Array Oper} {is : List (Nat × Nat)} {r : R} {Q : Exit → Act → World → Prop} {G : Gh} {A : AS} {a : Act} {w : World} {K : Ex → AS → Option R}
    (hkb : ∀ d, F.mu0 (kb + d) = none) {t0 : Nat} (ho : orderAt tt t0 ops = some is) (h : evD tt hd kb ops is [] A K = some r) (Rl : Rel F G A a.tmps cst w) (hK : Post F cst a.defers r K Q) :
    wpAny P .any ops Q ops.size (Array.replicate ops.size false) a { w with drawn := w.drawn + 1 } := by
  unfold orderAt at ho
  split at ho
  · rename_i is1 h1
    cases ho
    exact orderIs_ok htt hh hkb h1 h Rl hK
  · exact orderIs_ok htt hh hkb ho h Rl hK
theorem orderD_ok (htt : TTok P tt) : DrawOk P tt (orderD tt) := by
  intro hd hh R F cst kb ops is r Q G A a w K hkb ho h Rl hK
  exact orderAt_ok htt hh hkb ho h Rl hK
end

end Go.Proofs.YtmlgepgcofmpeaaGreat.Sym

/- A program's types as a table; contracts as a table; summaries of loops. -/
namespace Go.Proofs.YtmlgepgcofmpeaaGreat.Sym
open Go
set_option linter.unusedSimpArgs false
set_option linter.unusedVariables false

/-! ### types -/
def tyFs (f : Nat → Option Ty) : List Field → Option Ty
  | [] => some .unit
  | x :: xs => match f x.type with
    | some a => match tyFs f xs with
      | some b => some (.prod a b)
      | none => none
    | none => none
/-- The element type, if the last field is a slice of the struct itself. -/
def selfOf (P : Program) (t : Nat) (fs : List Field) : Option Nat := match fs.getLast? with
  | some x => match P.underlying x.type with
    | some (.slice e) => bif Nat.beq e t then some e else none
    | _ => none
  | none => none
def tyOf (P : Program) : Nat → Nat → Option Ty
  | 0, _ => none
  | n + 1, t => match P.underlying t with
    | some .bool => some .bool
    | some (.int k) => some (.int k)
    | some .string => some .str
    | some (.slice e) => match tyOf P n e with
      | some t => some (.sl e t)
      | none => none
    | some (.struct fs) => match selfOf P t fs.toList with
      | some e => match tyFs (tyOf P n) fs.toList.dropLast with
        | some a => some (.tree a e)
        | none => none
      | none => tyFs (tyOf P n) fs.toList
    | _ => none
/-- May two of the type be compared, field by field? -/
def eqbOf (P : Program) (t : Nat) : Bool := !P.stoodInHeld t && (!P.eqGuardType P.depth t && match P.underlying t with
  | some (.struct F) => F.toList.all fun f => f.name != "_"
  | _ => true)
theorem eqbOf_ok {P : Program} {t : Nat} (h : eqbOf P t = true) : P.stoodInHeld t = false ∧ P.eqGuardType P.depth t = false ∧ ∀ F, P.underlying t = some (.struct F) → ∀ f ∈ F.toList, f.name ≠ "_" := by
  unfold eqbOf at h
  simp only [Bool.and_eq_true, Bool.not_eq_true'] at h
  refine ⟨h.1, h.2.1, fun F hF f hf => ?_⟩
  have h2 := h.2.2
  rw [hF] at h2
  simp only [List.all_eq_true, bne_iff_ne] at h2
  exact h2 f hf
def tiOf (P : Program) (t : Nat) : TI := match P.info? t with
  | some i => match P.underlying t with
    | some d => match i.zero with
      | some z => bif vAgg z == isSt (dsOf d) then ⟨dsOf d, tyOf P 8 t, i.size, i.bytes, z.cells.toList, eqbOf P t⟩ else .none
      | none => .none
    | none => .none
  | none => .none
def ttOf (P : Program) (n : Nat) : TT := (List.range n).map (tiOf P)
theorem ttOf_ok (P : Program) (n : Nat) : TTok P (ttOf P n) := by
  intro t ht
  have e : (ttOf P n).at t = if t < n then tiOf P t else .none := by
    unfold ttOf TT.at
    rw [List.getD_eq_getElem?_getD, List.getElem?_map]
    by_cases h : t < n
    · rw [List.getElem?_range h, if_pos h]; rfl
    · rw [List.getElem?_eq_none (by simp; omega), if_neg h]; rfl
  rw [e] at ht ⊢
  by_cases h : t < n
  · rw [if_pos h] at ht ⊢
    unfold tiOf at ht ⊢
    split
    · rename_i i hi
      rw [hi] at ht
      simp only at ht
      split
      · rename_i d hd
        rw [hd] at ht
        simp only at ht
        split
        · rename_i z hz
          rw [hz] at ht
          simp only at ht
          cases hb : vAgg z == isSt (dsOf d) with
          | false => rw [hb] at ht; exact absurd rfl ht
          | true => exact ⟨⟨d, hd, rfl⟩, ⟨i, z, hi, rfl, rfl, hz, rfl, by simpa using hb⟩, fun h => eqbOf_ok h⟩
        · rename_i hz; rw [hz] at ht; exact absurd rfl ht
      · rename_i hd; rw [hd] at ht; exact absurd rfl ht
    · rename_i hi; rw [hi] at ht; exact absurd rfl ht
  · rw [if_neg h] at ht; exact absurd rfl ht

/-! ### contracts -/
abbrev Hc := (R : Type) → List V → Nat → AS → (Oc → AS → Option R) → Option R
def hcAt : List (Nat × Hc) → Nat → Option Hc
  | [], _ => none
  | (g, h) :: l, f => bif Nat.beq g f then some h else hcAt l f
def hdT (l : List (Nat × Hc)) : Hd := fun R f args id A K => match hcAt l f with
  | some h => h R args id A K
  | none => none
def HcsOk (P : Program) : List (Nat × Hc) → Prop
  | [] => True
  | p :: l => HcOk P p.1 p.2 ∧ HcsOk P l
theorem HcsOk.nil {P : Program} : HcsOk P [] := trivial
theorem HcsOk.cons {P : Program} {f : Nat} {h : Hc} {l : List (Nat × Hc)} (a : HcOk P f h) (b : HcsOk P l) : HcsOk P ((f, h) :: l) := ⟨a, b⟩
theorem hcAt_ok {P : Program} : ∀ {l : List (Nat × Hc)} {f : Nat} {h : Hc}, HcsOk P l → hcAt l f = some h → HcOk P f h
  | [], _, _, _, e => by cases e
  | (g, h') :: l, f, h, hl, e => by
    simp only [hcAt] at e
    cases hb : Nat.beq g f with
    | true =>
      rw [hb] at e
      simp only [cond_true, Option.some.injEq] at e
      subst e
      have := Nat.eq_of_beq_eq_true hb
      subst this
      exact hl.1
    | false =>
      rw [hb] at e
      exact hcAt_ok hl.2 e
/-- Two contracts of one function: which of them is used is seen from the state, or from the arguments. -/
def orHd (sel : List V → AS → Bool) (h1 h2 : Hc) : Hc := fun R args id A K => bif sel args A then h1 R args id A K else h2 R args id A K
theorem or_sound {P : Program} {f : Nat} {sel : List V → AS → Bool} {h1 h2 : Hc} (a : HcOk P f h1) (b : HcOk P f h2) : HcOk P f (orHd sel h1 h2) := by
  intro R args id A K r F G ts cst w vals hid h Rl hv
  unfold orHd at h
  cases hs : sel args A with
  | true => rw [hs] at h; exact a R args id A K r F G ts cst w vals hid h Rl hv
  | false => rw [hs] at h; exact b R args id A K r F G ts cst w vals hid h Rl hv
/-- Is a pointer among the arguments one to an object that begins with nil? -/
def nilAt (A : AS) (k : Nat) : Bool := match A.ob.getD k Option.none with
  | some (.nilp :: _) => true
  | _ => false
def deadB (args : List V) (A : AS) : Bool := args.any fun v => match v with
  | .one (.ptr k _) => nilAt A k || (match A.ob.getD k Option.none with
    | some (.ptr k' _ :: _) => nilAt A k'
    | _ => false)
  | _ => false
theorem hdT_ok {P : Program} {l : List (Nat × Hc)} (hl : HcsOk P l) : HdOk P (hdT l) := by
  intro R f args id A K r F G ts cst w vals hid h Rl hv
  unfold hdT at h
  split at h
  · rename_i hc e
    exact hcAt_ok hl e R args id A K r F G ts cst w vals hid h Rl hv
  · cases h

/-! ### summaries of loops -/
/-- A cell of a state at a loop's head: a hole, an owned list, or what it always is. -/
inductive SC where
  | hol (t : Ty)
  | onl (e : Nat) (t : Ty) (own : Nat)
  | exl (e : Nat) (t : Ty) (i j : Nat)
  | ext (e : Nat) (t : Ty) (i j : Nat)
  | ptr (key off : Nat)
  | fnp (f : Nat) (q : Bool) (ks : List Nat)
  | nils | nilp | top | itr
@[reducible] def SC.den : SC → Type
  | .hol t => t.den
  | .onl _ t _ => List t.den
  | .exl _ t _ _ => List t.den
  | .ext _ t _ _ => Nat × List t.den
  | .itr => List Int × Int
  | _ => Unit
@[reducible] def SCs.den : List SC → Type
  | [] => Unit
  | .hol t :: ss => t.den × SCs.den ss
  | .onl _ t _ :: ss => List t.den × SCs.den ss
  | .exl _ t _ _ :: ss => List t.den × SCs.den ss
  | .ext _ t _ _ :: ss => (Nat × List t.den) × SCs.den ss
  | .ptr _ _ :: ss => SCs.den ss
  | .fnp _ _ _ :: ss => SCs.den ss
  | .nils :: ss => SCs.den ss
  | .nilp :: ss => SCs.den ss
  | .top :: ss => SCs.den ss
  | .itr :: ss => (List Int × Int) × SCs.den ss
/-- The captured objects. -/
def capK : List Cp → Option (List Nat)
  | [] => some []
  | .ptr k o :: cs => bif Nat.beq o 0 then (match capK cs with | some ks => some (k :: ks) | none => none) else none
  | _ => none
def SC.dec : (s : SC) → C → Option s.den
  | .hol t, c => castC t c
  | .onl e t own, .lst e' t' xs own' => if h : e = e' ∧ t' = t ∧ own = own' then some (h.2.1 ▸ xs) else none
  | .exl e t i j, .ex e' t' lo xs i' j' => bif !(Nat.beq j 0) && (Nat.beq i i' && (Nat.beq j j' || Nat.beq i' j')) then (bif Nat.beq lo 0 then (if h : e = e' ∧ t' = t then some (h.2 ▸ xs) else none) else none) else none
  | .ext e t i j, .ex e' t' lo xs i' j' => bif !(Nat.beq j 0) && (Nat.beq i i' && (Nat.beq j j' || Nat.beq i' j')) then (if h : e = e' ∧ t' = t then some (lo, h.2 ▸ xs) else none) else none
  | .ptr k o, .ptr k' o' => bif Nat.beq k k' && Nat.beq o o' then some () else none
  | .fnp f q ks, .fn f' q' cs => match capK cs with | some ks' => (if f = f' ∧ q = q' ∧ ks = ks' then some () else none) | none => none
  | .nils, .nils => some ()
  | .nilp, .nilp => some ()
  | .top, _ => some ()
  | _, _ => none
def SC.mk : (s : SC) → s.den → C
  | .hol (.int k), x => .int k x
  | .hol .bool, x => .bool x
  | .hol .str, x => .str x
  | .hol (.sl e t), x => .lst e t x 0
  | .hol _, _ => .top
  | .onl e t own, x => .lst e t x own
  | .exl e t i j, x => .ex e t 0 x i j
  | .ext e t i j, x => .ex e t x.1 x.2 i j
  | .ptr k o, _ => .ptr k o
  | .fnp f q ks, _ => .fn f q (ks.map (.ptr · 0))
  | .nils, _ => .nils
  | .nilp, _ => .nilp
  | .top, _ => .top
  | .itr, x => .itr x
def SCs.dec : (ss : List SC) → List C → Option (SCs.den ss)
  | [], [] => some ()
  | .hol t :: ss, c :: cs => match SC.dec (.hol t) c with | some x => (match SCs.dec ss cs with | some xs => some (x, xs) | none => none) | none => none
  | .onl e t own :: ss, c :: cs => match SC.dec (.onl e t own) c with | some x => (match SCs.dec ss cs with | some xs => some (x, xs) | none => none) | none => none
  | .exl e t i j :: ss, c :: cs => match SC.dec (.exl e t i j) c with | some x => (match SCs.dec ss cs with | some xs => some (x, xs) | none => none) | none => none
  | .ext e t i j :: ss, c :: cs => match SC.dec (.ext e t i j) c with | some x => (match SCs.dec ss cs with | some xs => some (x, xs) | none => none) | none => none
  | .ptr k o :: ss, c :: cs => match SC.dec (.ptr k o) c with | some _ => SCs.dec ss cs | none => none
  | .fnp f q ks :: ss, c :: cs => match SC.dec (.fnp f q ks) c with | some _ => SCs.dec ss cs | none => none
  | .nils :: ss, c :: cs => match SC.dec .nils c with | some _ => SCs.dec ss cs | none => none
  | .nilp :: ss, c :: cs => match SC.dec .nilp c with | some _ => SCs.dec ss cs | none => none
  | .top :: ss, _ :: cs => SCs.dec ss cs
  | _, _ => none
def SCs.mk : (ss : List SC) → SCs.den ss → List C
  | [], _ => []
  | .hol t :: ss, x => SC.mk (.hol t) x.1 :: SCs.mk ss x.2
  | .onl e t own :: ss, x => SC.mk (.onl e t own) x.1 :: SCs.mk ss x.2
  | .exl e t i j :: ss, x => SC.mk (.exl e t i j) x.1 :: SCs.mk ss x.2
  | .ext e t i j :: ss, x => SC.mk (.ext e t i j) x.1 :: SCs.mk ss x.2
  | .ptr k o :: ss, x => .ptr k o :: SCs.mk ss x
  | .fnp f q ks :: ss, x => .fn f q (ks.map (.ptr · 0)) :: SCs.mk ss x
  | .nils :: ss, x => .nils :: SCs.mk ss x
  | .nilp :: ss, x => .nilp :: SCs.mk ss x
  | .top :: ss, x => .top :: SCs.mk ss x
  | .itr :: ss, x => .itr x.1 :: SCs.mk ss x.2
def SC.wf : (s : SC) → s.den → Prop
  | .hol t, x => t.wf x
  | .onl _ t _, xs => xs.length ≤ maxLen ∧ ∀ x ∈ xs, t.wf x
  | .exl _ t _ _, xs => xs.length ≤ maxLen ∧ ∀ x ∈ xs, t.wf x
  | .ext _ t _ _, xs => xs.1 + xs.2.length ≤ maxLen ∧ ∀ x ∈ xs.2, t.wf x
  | _, _ => True
def SCs.wf : (ss : List SC) → SCs.den ss → Prop
  | [], _ => True
  | .hol t :: ss, x => t.wf x.1 ∧ SCs.wf ss x.2
  | .onl _ t _ :: ss, x => (x.1.length ≤ maxLen ∧ ∀ y ∈ x.1, t.wf y) ∧ SCs.wf ss x.2
  | .exl _ t _ _ :: ss, x => (x.1.length ≤ maxLen ∧ ∀ y ∈ x.1, t.wf y) ∧ SCs.wf ss x.2
  | .ext _ t _ _ :: ss, x => (x.1.1 + x.1.2.length ≤ maxLen ∧ ∀ y ∈ x.1.2, t.wf y) ∧ SCs.wf ss x.2
  | .ptr _ _ :: ss, x => SCs.wf ss x
  | .fnp _ _ _ :: ss, x => SCs.wf ss x
  | .nils :: ss, x => SCs.wf ss x
  | .nilp :: ss, x => SCs.wf ss x
  | .top :: ss, x => SCs.wf ss x
  | .itr :: ss, x => (byteR x.1.1 ∧ x.1.1.length ≤ maxLen ∧ 0 ≤ x.1.2) ∧ SCs.wf ss x.2

section
variable {G : Gh} {w : World}

theorem castC_one {t : Ty} {c : C} {x : t.den} {v : Value} (h : castC t c = some x) (hv : Rc G w c v) : Rc G w (SC.mk (.hol t) x) v := by
  have hcell := hv.cell
  have hr := castC_sound (G := G) (w := w) t c x v h hv
  have hs := toCs_sound (G := G) (w := w) t x [v] hr
  cases t <;> first | exact hs.1 | exact hcell
/-- The ids may be weaker. -/
theorem exw {e : Nat} {t : Ty} {lo : Nat} {xs : List t.den} {i j i' j' : Nat} {v : Value} (hb : (!(Nat.beq j 0) && (Nat.beq i i' && (Nat.beq j j' || Nat.beq i' j'))) = true) (hv : Rc G w (.ex e t lo xs i' j') v) : Rc G w (.ex e t lo xs i j) v := by
  simp only [Bool.and_eq_true, Bool.not_eq_true', Bool.or_eq_true] at hb
  obtain ⟨h0, h1, h2⟩ := hb
  have h1 := Nat.eq_of_beq_eq_true h1
  subst h1
  have hj : j ≠ 0 := by rintro rfl; cases h0
  rcases hv with hv | ⟨b, cap, e0, ⟨n1, n2, ho⟩, hx⟩
  · exact .inl hv
  · refine .inr ⟨b, cap, e0, ⟨n1, hj, ?_⟩, hx⟩
    rcases h2 with h2 | h2
    · rw [Nat.eq_of_beq_eq_true h2]; exact ho
    · have h2 := Nat.eq_of_beq_eq_true h2
      subst h2
      rcases ho with ho | ho <;> exact .inl ho
theorem exwf {e : Nat} {t : Ty} {lo : Nat} {xs : List t.den} {i j : Nat} {v : Value} (hv : Rc G w (.ex e t lo xs i j) v) : lo + xs.length ≤ maxLen ∧ ∀ x ∈ xs, t.wf x := by
  rcases hv with ⟨rfl, rfl, _⟩ | ⟨b, cap, e0, _, cur, el, _, _, h2, h3, h4⟩
  · exact ⟨Nat.zero_le _, fun x hx => by simp at hx⟩
  · refine ⟨Nat.le_trans h2 h3, fun x hx => ?_⟩
    obtain ⟨k, hk⟩ := List.getElem?_of_mem hx
    obtain ⟨c, hc, _⟩ := h4 k x hk
    exact Rt.wf _ x c hc
theorem capK_eq : ∀ {cs : List Cp} {ks : List Nat}, capK cs = some ks → cs = ks.map (Cp.ptr · 0)
  | [], _, h => by cases h; rfl
  | .dat _ _ :: _, _, h => by cases h
  | .ptr k o :: cs, _, h => by
    simp only [capK] at h
    cases ho : Nat.beq o 0 with
    | false => rw [ho] at h; cases h
    | true =>
      rw [ho] at h
      simp only [cond_true] at h
      split at h
      · rename_i ks hk
        cases h
        rw [Nat.eq_of_beq_eq_true ho, capK_eq hk]; rfl
      · cases h
theorem SC.dec_sound : ∀ {s : SC} {c : C} {x : s.den} {v : Value}, s.dec c = some x → Rc G w c v → Rc G w (s.mk x) v ∧ s.wf x := by
  intro s c x v h hv
  cases s with
  | hol t => exact ⟨castC_one h hv, Rt.wf (w := w) t x [v] (castC_sound t c x v h hv)⟩
  | onl e t own =>
    cases c <;> simp only [SC.dec] at h <;> try cases h
    rename_i e' t' xs own'
    split at h
    · rename_i hh
      obtain ⟨rfl, rfl, rfl⟩ := hh
      cases h
      refine ⟨hv, ?_⟩
      obtain ⟨A, cap, _, h1, h2, hrow, _⟩ := hv
      refine ⟨Nat.le_trans h1 h2, fun y hy => ?_⟩
      obtain ⟨i, hi⟩ := List.getElem?_of_mem hy
      obtain ⟨b, o, c, _, hc, _⟩ := hrow.cellAt hi
      exact Rt.wf _ y c hc
    · cases h
  | exl e t i j =>
    cases c <;> simp only [SC.dec] at h <;> try cases h
    rename_i e' t' lo xs i' j'
    cases hb : !(Nat.beq j 0) && (Nat.beq i i' && (Nat.beq j j' || Nat.beq i' j')) with
    | false => rw [hb] at h; cases h
    | true =>
      rw [hb] at h
      simp only [cond_true] at h
      cases hl : Nat.beq lo 0 with
      | false => rw [hl] at h; cases h
      | true =>
        rw [hl] at h
        simp only [cond_true] at h
        have hl := Nat.eq_of_beq_eq_true hl
        subst hl
        split at h
        · rename_i hh
          obtain ⟨rfl, rfl⟩ := hh
          cases h
          exact ⟨exw hb hv, by have := exwf hv; rwa [Nat.zero_add] at this⟩
        · cases h
  | ext e t i j =>
    cases c <;> simp only [SC.dec] at h <;> try cases h
    rename_i e' t' lo xs i' j'
    cases hb : !(Nat.beq j 0) && (Nat.beq i i' && (Nat.beq j j' || Nat.beq i' j')) with
    | false => rw [hb] at h; cases h
    | true =>
      rw [hb] at h
      simp only [cond_true] at h
      split at h
      · rename_i hh
        obtain ⟨rfl, rfl⟩ := hh
        cases h
        exact ⟨exw hb hv, exwf hv⟩
      · cases h
  | ptr k o =>
    cases c <;> simp only [SC.dec] at h <;> try cases h
    rename_i k' o'
    cases hb : Nat.beq k k' && Nat.beq o o' with
    | false => rw [hb] at h; cases h
    | true =>
      simp only [Bool.and_eq_true] at hb
      have e1 := Nat.eq_of_beq_eq_true hb.1
      have e2 := Nat.eq_of_beq_eq_true hb.2
      subst e1; subst e2
      exact ⟨hv, trivial⟩
  | fnp f q ks =>
    cases c <;> simp only [SC.dec] at h <;> try cases h
    rename_i f' q' cs
    split at h
    · rename_i ks' hk
      split at h
      · rename_i hh
        obtain ⟨rfl, rfl, rfl⟩ := hh
        rw [capK_eq hk] at hv
        exact ⟨hv, trivial⟩
      · cases h
    · cases h
  | nils => cases c <;> simp only [SC.dec] at h <;> first | exact ⟨hv, trivial⟩ | cases h
  | nilp => cases c <;> simp only [SC.dec] at h <;> first | exact ⟨hv, trivial⟩ | cases h
  | top => exact ⟨hv.cell, trivial⟩
  | itr => cases c <;> simp [SC.dec] at h
theorem SCs.dec_sound : ∀ {ss : List SC} {cs : List C} {x : SCs.den ss} {vs : List Value}, SCs.dec ss cs = some x → All2 (Rc G w) cs vs → All2 (Rc G w) (SCs.mk ss x) vs ∧ SCs.wf ss x
  | [], [], _, vs, _, hv => ⟨hv, trivial⟩
  | [], _ :: _, _, _, h, _ => by simp [SCs.dec] at h
  | s :: ss, [], _, _, h, _ => by cases s <;> simp [SCs.dec] at h
  | s :: ss, c :: cs, x, [], h, hv => hv.elim
  | s :: ss, c :: cs, x, v :: vs, h, hv => by
    cases s <;> simp only [SCs.dec] at h
    case hol t =>
      split at h
      · rename_i y hy
        split at h
        · rename_i ys hys
          cases h
          obtain ⟨h1, h2⟩ := SC.dec_sound hy hv.1
          obtain ⟨h3, h4⟩ := SCs.dec_sound hys hv.2
          exact ⟨⟨h1, h3⟩, h2, h4⟩
        · cases h
      · cases h
    case onl e t own =>
      split at h
      · rename_i y hy
        split at h
        · rename_i ys hys
          cases h
          obtain ⟨h1, h2⟩ := SC.dec_sound hy hv.1
          obtain ⟨h3, h4⟩ := SCs.dec_sound hys hv.2
          exact ⟨⟨h1, h3⟩, h2, h4⟩
        · cases h
      · cases h
    case exl e t i j =>
      split at h
      · rename_i y hy
        split at h
        · rename_i ys hys
          cases h
          obtain ⟨h1, h2⟩ := SC.dec_sound hy hv.1
          obtain ⟨h3, h4⟩ := SCs.dec_sound hys hv.2
          exact ⟨⟨h1, h3⟩, h2, h4⟩
        · cases h
      · cases h
    case ext e t i j =>
      split at h
      · rename_i y hy
        split at h
        · rename_i ys hys
          cases h
          obtain ⟨h1, h2⟩ := SC.dec_sound hy hv.1
          obtain ⟨h3, h4⟩ := SCs.dec_sound hys hv.2
          exact ⟨⟨h1, h3⟩, h2, h4⟩
        · cases h
      · cases h
    case top =>
      obtain ⟨h3, h4⟩ := SCs.dec_sound h hv.2
      exact ⟨⟨hv.1.cell, h3⟩, h4⟩
    case itr => cases h
    all_goals
      split at h
      · rename_i y hy
        obtain ⟨h1, _⟩ := SC.dec_sound hy hv.1
        obtain ⟨h3, h4⟩ := SCs.dec_sound h hv.2
        exact ⟨⟨h1, h3⟩, h4⟩
      · cases h
end

/-- A temporary. -/
inductive SV where
  | one (s : SC) | agg (ss : List SC) | any
def SV.cs : SV → List SC
  | .one s => [s]
  | .agg ss => ss
  | .any => []
@[reducible] def DenT : List SV → Type
  | [] => Unit
  | .any :: vs => DenT vs
  | .one (.ptr _ _) :: vs => DenT vs
  | .one (.fnp _ _ _) :: vs => DenT vs
  | .one .nils :: vs => DenT vs
  | .one .nilp :: vs => DenT vs
  | .one .top :: vs => DenT vs
  | .one .itr :: vs => DenT vs
  | .one (.hol t) :: vs => t.den × DenT vs
  | .one (.onl _ t _) :: vs => List t.den × DenT vs
  | .one (.exl _ t _ _) :: vs => List t.den × DenT vs
  | .one (.ext _ t _ _) :: vs => (Nat × List t.den) × DenT vs
  | .agg ss :: vs => SCs.den ss × DenT vs
def decT : (vs : List SV) → List V → Option (DenT vs)
  | [], [] => some ()
  | .any :: vs, _ :: us => decT vs us
  | .one (.ptr k o) :: vs, .one c :: us => match SC.dec (.ptr k o) c with | some _ => decT vs us | none => none
  | .one (.fnp f q ks) :: vs, .one c :: us => match SC.dec (.fnp f q ks) c with | some _ => decT vs us | none => none
  | .one .nils :: vs, .one c :: us => match SC.dec .nils c with | some _ => decT vs us | none => none
  | .one .nilp :: vs, .one c :: us => match SC.dec .nilp c with | some _ => decT vs us | none => none
  | .one .top :: vs, .one _ :: us => decT vs us
  | .one (.hol t) :: vs, .one c :: us => match SC.dec (.hol t) c with | some x => (match decT vs us with | some xs => some (x, xs) | none => none) | none => none
  | .one (.onl e t own) :: vs, .one c :: us => match SC.dec (.onl e t own) c with | some x => (match decT vs us with | some xs => some (x, xs) | none => none) | none => none
  | .one (.exl e t i j) :: vs, .one c :: us => match SC.dec (.exl e t i j) c with | some x => (match decT vs us with | some xs => some (x, xs) | none => none) | none => none
  | .one (.ext e t i j) :: vs, .one c :: us => match SC.dec (.ext e t i j) c with | some x => (match decT vs us with | some xs => some (x, xs) | none => none) | none => none
  | .agg ss :: vs, .agg cs :: us => match SCs.dec ss cs with | some x => (match decT vs us with | some xs => some (x, xs) | none => none) | none => none
  | _, _ => none
def mkT : (vs : List SV) → DenT vs → List V
  | [], _ => []
  | .any :: vs, x => .any :: mkT vs x
  | .one (.ptr k o) :: vs, x => .one (.ptr k o) :: mkT vs x
  | .one (.fnp f q ks) :: vs, x => .one (.fn f q (ks.map (.ptr · 0))) :: mkT vs x
  | .one .nils :: vs, x => .one .nils :: mkT vs x
  | .one .nilp :: vs, x => .one .nilp :: mkT vs x
  | .one .top :: vs, x => .one .top :: mkT vs x
  | .one .itr :: vs, x => .any :: mkT vs x
  | .one (.hol t) :: vs, x => .one (SC.mk (.hol t) x.1) :: mkT vs x.2
  | .one (.onl e t own) :: vs, x => .one (SC.mk (.onl e t own) x.1) :: mkT vs x.2
  | .one (.exl e t i j) :: vs, x => .one (SC.mk (.exl e t i j) x.1) :: mkT vs x.2
  | .one (.ext e t i j) :: vs, x => .one (SC.mk (.ext e t i j) x.1) :: mkT vs x.2
  | .agg ss :: vs, x => .agg (SCs.mk ss x.1) :: mkT vs x.2
def wfT : (vs : List SV) → DenT vs → Prop
  | [], _ => True
  | .any :: vs, x => wfT vs x
  | .one (.ptr _ _) :: vs, x => wfT vs x
  | .one (.fnp _ _ _) :: vs, x => wfT vs x
  | .one .nils :: vs, x => wfT vs x
  | .one .nilp :: vs, x => wfT vs x
  | .one .top :: vs, x => wfT vs x
  | .one .itr :: vs, x => wfT vs x
  | .one (.hol t) :: vs, x => t.wf x.1 ∧ wfT vs x.2
  | .one (.onl _ t _) :: vs, x => (x.1.length ≤ maxLen ∧ ∀ y ∈ x.1, t.wf y) ∧ wfT vs x.2
  | .one (.exl _ t _ _) :: vs, x => (x.1.length ≤ maxLen ∧ ∀ y ∈ x.1, t.wf y) ∧ wfT vs x.2
  | .one (.ext _ t _ _) :: vs, x => (x.1.1 + x.1.2.length ≤ maxLen ∧ ∀ y ∈ x.1.2, t.wf y) ∧ wfT vs x.2
  | .agg ss :: vs, x => SCs.wf ss x.1 ∧ wfT vs x.2
theorem decT_sound {G : Gh} {w : World} : ∀ {vs : List SV} {us : List V} {x : DenT vs} {zs : List Value}, decT vs us = some x → All2 (Rv G w) us zs → All2 (Rv G w) (mkT vs x) zs ∧ wfT vs x
  | [], [], _, zs, _, hv => ⟨hv, trivial⟩
  | [], _ :: _, _, _, h, _ => by simp [decT] at h
  | v :: vs, [], _, _, h, _ => by
    cases v with
    | one s => cases s <;> simp [decT] at h
    | agg ss => simp [decT] at h
    | any => simp [decT] at h
  | v :: vs, u :: us, x, [], h, hv => hv.elim
  | v :: vs, u :: us, x, z :: zs, h, hv => by
    cases v with
    | any =>
      simp only [decT] at h
      obtain ⟨h3, h4⟩ := decT_sound h hv.2
      exact ⟨⟨trivial, h3⟩, h4⟩
    | agg ss =>
      cases u <;> simp only [decT] at h <;> try cases h
      rename_i cs
      split at h
      · rename_i y hy
        split at h
        · rename_i ys hys
          cases h
          obtain ⟨us', rfl, hu⟩ := hv.1
          obtain ⟨h1, h2⟩ := SCs.dec_sound hy hu
          obtain ⟨h3, h4⟩ := decT_sound hys hv.2
          exact ⟨⟨⟨us', rfl, h1⟩, h3⟩, h2, h4⟩
        · cases h
      · cases h
    | one s =>
      cases u with
      | one c =>
        cases s <;> simp only [decT] at h
        case hol t =>
          split at h
          · rename_i y hy
            split at h
            · rename_i ys hys
              cases h
              obtain ⟨h1, h2⟩ := SC.dec_sound hy hv.1
              obtain ⟨h3, h4⟩ := decT_sound hys hv.2
              exact ⟨⟨h1, h3⟩, h2, h4⟩
            · cases h
          · cases h
        case onl e t own =>
          split at h
          · rename_i y hy
            split at h
            · rename_i ys hys
              cases h
              obtain ⟨h1, h2⟩ := SC.dec_sound hy hv.1
              obtain ⟨h3, h4⟩ := decT_sound hys hv.2
              exact ⟨⟨h1, h3⟩, h2, h4⟩
            · cases h
          · cases h
        case exl e t i j =>
          split at h
          · rename_i y hy
            split at h
            · rename_i ys hys
              cases h
              obtain ⟨h1, h2⟩ := SC.dec_sound hy hv.1
              obtain ⟨h3, h4⟩ := decT_sound hys hv.2
              exact ⟨⟨h1, h3⟩, h2, h4⟩
            · cases h
          · cases h
        case ext e t i j =>
          split at h
          · rename_i y hy
            split at h
            · rename_i ys hys
              cases h
              obtain ⟨h1, h2⟩ := SC.dec_sound hy hv.1
              obtain ⟨h3, h4⟩ := decT_sound hys hv.2
              exact ⟨⟨h1, h3⟩, h2, h4⟩
            · cases h
          · cases h
        case top =>
          obtain ⟨h3, h4⟩ := decT_sound h hv.2
          exact ⟨⟨Rc.cell hv.1, h3⟩, h4⟩
        case itr => cases h
        all_goals
          split at h
          · rename_i y hy
            obtain ⟨h1, _⟩ := SC.dec_sound hy hv.1
            obtain ⟨h3, h4⟩ := decT_sound h hv.2
            exact ⟨⟨h1, h3⟩, h4⟩
          · cases h
      | _ => cases s <;> simp [decT] at h

/-- The objects. -/
@[reducible] def DenB : List (Option (List SC)) → Type
  | [] => Unit
  | none :: os => DenB os
  | some ss :: os => SCs.den ss × DenB os
/-- An iterator. -/
def decI : (ss : List SC) → List C → Option (SCs.den ss)
  | [.itr], [.itr x] => some (x, ())
  | _, _ => none
def decB : (os : List (Option (List SC))) → List (Option (List C)) → Option (DenB os)
  | [], _ => some ()
  | none :: os, _ :: bs => decB os bs
  | none :: os, [] => decB os []
  | some ss :: os, some cs :: bs => match (bif cs.any C.isItr then decI ss cs else SCs.dec ss cs) with | some x => (match decB os bs with | some xs => some (x, xs) | none => none) | none => none
  | _, _ => none
def mkB : (os : List (Option (List SC))) → DenB os → List (Option (List C))
  | [], _ => []
  | none :: os, x => none :: mkB os x
  | some ss :: os, x => some (SCs.mk ss x.1) :: mkB os x.2
def wfB : (os : List (Option (List SC))) → DenB os → Prop
  | [], _ => True
  | none :: os, x => wfB os x
  | some ss :: os, x => SCs.wf ss x.1 ∧ wfB os x.2
theorem decObj_sound {G : Gh} {w : World} {ss : List SC} {cs : List C} {y : SCs.den ss} (h : (bif cs.any C.isItr then decI ss cs else SCs.dec ss cs) = some y) (ho : ∃ o : Obj, ObjOk G w cs o) :
    SCs.wf ss y ∧ ∀ o, ObjOk G w cs o → ObjOk G w (SCs.mk ss y) o := by
  obtain ⟨o, ho⟩ := ho
  cases hn : cs.any C.isItr with
  | false =>
    rw [hn] at h
    obtain ⟨cur, el, _, hr⟩ := ho.cells hn
    refine ⟨(SCs.dec_sound h hr).2, fun o' ho' => ?_⟩
    obtain ⟨cur', el', e', hr'⟩ := ho'.cells hn
    exact .inl ⟨cur', el', e', (SCs.dec_sound h hr').1⟩
  | true =>
    rw [hn] at h
    simp only [cond_true] at h
    unfold decI at h
    split at h
    · rename_i x
      cases h
      refine ⟨?_, fun o' ho' => ho'⟩
      rcases ho with ⟨cur, el, _, hr⟩ | ⟨s, n, e2, rfl, hbr, hlen⟩
      · match hcl : cur.toList, hr with
        | [], hr => exact hr.elim
        | _ :: _, hr => exact hr.1.elim
      · simp only [List.cons.injEq, C.itr.injEq, and_true] at e2
        subst e2
        exact ⟨⟨hbr, hlen, Int.natCast_nonneg n⟩, trivial⟩
    · cases h
theorem decB_sound {G : Gh} {w : World} : ∀ {os : List (Option (List SC))} {bs : List (Option (List C))} {x : DenB os}, decB os bs = some x →
    (∀ (k : Nat) (cs : List C), bs[k]? = some (some cs) → ∃ o : Obj, ObjOk G w cs o) →
    wfB os x ∧ ∀ (k : Nat) (cs : List C), (mkB os x)[k]? = some (some cs) → ∃ cs0 : List C, bs[k]? = some (some cs0) ∧ ∀ o, ObjOk G w cs0 o → ObjOk G w cs o
  | [], _, _, _, _ => ⟨trivial, fun k cs h => by simp [mkB] at h⟩
  | none :: os, [], x, h, hb => by
    simp only [decB] at h
    obtain ⟨h1, h2⟩ := decB_sound h hb
    refine ⟨h1, fun k cs hk => ?_⟩
    cases k with
    | zero => simp [mkB] at hk
    | succ k => obtain ⟨cs0, h3, _⟩ := h2 k cs (by simpa [mkB] using hk); simp at h3
  | none :: os, b :: bs, x, h, hb => by
    simp only [decB] at h
    obtain ⟨h1, h2⟩ := decB_sound h fun k cs hk => hb (k + 1) cs (by simpa using hk)
    refine ⟨h1, fun k cs hk => ?_⟩
    cases k with
    | zero => simp [mkB] at hk
    | succ k => obtain ⟨cs0, h3, h4⟩ := h2 k cs (by simpa [mkB] using hk); exact ⟨cs0, by simpa using h3, h4⟩
  | some ss :: os, [], x, h, hb => by simp [decB] at h
  | some ss :: os, none :: bs, x, h, hb => by simp [decB] at h
  | some ss :: os, some cs :: bs, x, h, hb => by
    simp only [decB] at h
    split at h
    · rename_i y hy
      split at h
      · rename_i ys hys
        cases h
        obtain ⟨h1, h2⟩ := decB_sound hys fun k cs hk => hb (k + 1) cs (by simpa using hk)
        obtain ⟨h6, h7⟩ := decObj_sound hy (hb 0 cs rfl)
        refine ⟨⟨h6, h1⟩, fun k cs' hk => ?_⟩
        cases k with
        | zero =>
          simp only [mkB, List.getElem?_cons_zero, Option.some.injEq] at hk
          subst hk
          exact ⟨cs, rfl, h7⟩
        | succ k => obtain ⟨cs0, h3, h4⟩ := h2 k cs' (by simpa [mkB] using hk); exact ⟨cs0, by simpa using h3, h4⟩
      · cases h
    · cases h

/-- A state's shape. -/
structure Ls where
  tm : List SV
  ob : List (Option (List SC))
abbrev Ls.den (s : Ls) : Type := DenT s.tm × DenB s.ob
def Ls.mk' (s : Ls) (x : s.den) : AS := ⟨mkT s.tm x.1, [], mkB s.ob x.2⟩
def Ls.dec (s : Ls) (A : AS) : Option s.den := match A with
  | ⟨tm, [], ob⟩ => match decT s.tm tm with
    | some x => match decB s.ob ob with
      | some y => some (x, y)
      | none => none
    | none => none
  | _ => none
def Ls.wf (s : Ls) (x : s.den) : Prop := wfT s.tm x.1 ∧ wfB s.ob x.2
theorem Ls.dec_sound {s : Ls} {A : AS} {x : s.den} (h : s.dec A = some x) {F : Fra} {G : Gh} {ts : Array Value} {cst : List (Array Value)} {w : World} (R : Rel F G A ts cst w) : Rel F G (s.mk' x) ts cst w ∧ s.wf x := by
  obtain ⟨tm, stk, ob⟩ := A
  unfold Ls.dec at h
  split at h
  · rename_i tm' ob' e
    cases e
    split at h
    · rename_i y hy
      split at h
      · rename_i z hz
        cases h
        obtain ⟨h1, h2⟩ := decT_sound hy R.tm
        obtain ⟨h3, h4⟩ := decB_sound (G := G) (w := w) hz fun k cs hk => let ⟨b, o, _, _, hr⟩ := R.ob k cs hk; ⟨_, hr⟩
        refine ⟨⟨h1, R.stk, fun k cs hk => ?_, R.gh⟩, h2, h3⟩
        obtain ⟨cs0, h5, h6⟩ := h4 k cs hk
        obtain ⟨b, o, hm, hh, hr⟩ := R.ob k cs0 h5
        exact ⟨b, o, hm, hh, h6 _ hr⟩
      · cases h
    · cases h
  · cases h

/-- How a loop is left. -/
inductive Lx where
  | exit (id : Nat) | ret | normal | panic (T : Nat) (t : Ty)
@[reducible] def Lx.den : Lx → Type
  | .panic _ t => t.den
  | _ => Unit
def Lx.ex : (e : Lx) → e.den → Ex
  | .exit id, _ => .exit id
  | .ret, _ => .ret
  | .normal, _ => .normal
  | .panic T t, x => .panic (.one (.ifc T t x))
def Lx.dec : (e : Lx) → Ex → Option e.den
  | .exit id, .exit id' => bif Nat.beq id id' then some () else none
  | .ret, .ret => some ()
  | .panic T t, .panic (.one (.ifc T' t' x)) => if h : T = T' ∧ t' = t then some (h.2 ▸ x) else none
  | _, _ => none
@[reducible] def DenX : List (Lx × Ls) → Type
  | [] => Empty
  | x :: xs => Out (x.1.den × x.2.den) (DenX xs)
def decX : (xs : List (Lx × Ls)) → Ex → AS → Option (DenX xs)
  | [], _, _ => none
  | x :: xs, e, A => match x.1.dec e with
    | some p => match x.2.dec A with
      | some d => some (.ret (p, d))
      | none => match decX xs e A with
        | some y => some (.pan y)
        | none => none
    | none => match decX xs e A with
      | some y => some (.pan y)
      | none => none
def mkX {R : Type} : (xs : List (Lx × Ls)) → DenX xs → (Ex → AS → Option R) → Option R
  | [], x, _ => nomatch x
  | x :: _, .ret d, K => K (x.1.ex d.1) (x.2.mk' d.2)
  | _ :: xs, .pan y, K => mkX xs y K
structure Lo where
  st : Ls
  xs : List (Lx × Ls)
def loHd (lo : Lo) (Fn : lo.st.den → Tr (DenX lo.xs)) : Lh := fun R A K => match lo.st.dec A with
  | some x => (Fn x).run fun y => mkX lo.xs y K
  | none => none

theorem decX_sound {R : Type} {F : Fra} {G : Gh} {A : AS} {a : Act} {cst : List (Array Value)} {w : World} (Rl : Rel F G A a.tmps cst w) {K : Ex → AS → Option R} {r : R} {Q : Exit → Act → World → Prop} {dfs : List Deferred} (hd : a.defers = dfs) (hK : Post F cst dfs r K Q) :
    ∀ {xs : List (Lx × Ls)} {e : Ex} {y : DenX xs}, decX xs e A = some y → mkX xs y K = some r →
      match e with
      | .normal => Q .normal a w
      | .exit id => Q (.exit id) a w
      | .ret => Q .ret a w
      | .panic v => ∀ u, Rv G w v u → Q (.panic [{ v := u, recovered := false }]) a w
  | [], e, y, h, _ => by simp [decX] at h
  | (l, s) :: xs, e, y, h, hm => by
    simp only [decX] at h
    have rest : ∀ {y' : DenX xs}, decX xs e A = some y' → mkX xs y' K = some r → _ := fun h1 h2 => decX_sound Rl hd hK h1 h2
    split at h
    · rename_i p hp
      split at h
      · rename_i d hdd
        cases h
        simp only [mkX] at hm
        have R' := (Ls.dec_sound hdd Rl).1
        cases l with
        | normal => cases e <;> simp [Lx.dec] at hp
        | ret =>
          cases e <;> simp only [Lx.dec] at hp <;> try cases hp
          exact hK .ret _ G a w R' hd hm
        | exit id =>
          cases e <;> simp only [Lx.dec] at hp <;> try cases hp
          rename_i id'
          cases hb : Nat.beq id id' with
          | false => rw [hb] at hp; cases hp
          | true =>
            have := Nat.eq_of_beq_eq_true hb
            subst this
            exact hK (.exit id) _ G a w R' hd hm
        | panic T t =>
          cases e with
          | panic v =>
            cases v with
            | one c =>
              cases c <;> simp only [Lx.dec] at hp <;> try cases hp
              rename_i T' t' x
              split at hp
              · rename_i hh
                obtain ⟨rfl, rfl⟩ := hh
                cases hp
                exact hK (.panic _) _ G a w R' hd hm
              · cases hp
            | _ => simp [Lx.dec] at hp
          | _ => simp [Lx.dec] at hp
      · split at h
        · rename_i y' hy'
          cases h
          exact rest hy' hm
        · cases h
    · split at h
      · rename_i y' hy'
        cases h
        exact rest hy' hm
      · cases h

/-- A loop keeps to its summary, if what its body makes of the shape, looked at often enough, is what the summary says. -/
theorem lo_sound {P : Program} {tt : TT} (htt : TTok P tt) (hm : P.follows .mixedOrders = true) {hd : Hd} (hh : HdOk P hd) {okDraw : Dr} (hdr : DrawOk P tt okDraw) {lp : Lp} {kb lr : Nat} {m : Nat} {b : Code} {x : List (Nat × Nat)}
    (hlp : ∀ e ∈ loopsOf lr b m x, ∀ h, lp (firstId e.2.1) = some h → LhOk P kb e.2.1 h) (lo : Lo) (Fn : lo.st.den → Tr (DenX lo.xs))
    (hF : ∀ d y, lo.st.wf d → (Fn d).val = some y → ∃ n, loopN m kb (fun A K => ev tt hd okDraw lp kb lr b m x A K) n (lo.st.mk' d) (decX lo.xs) = some y) : LhOk P kb b (loHd lo Fn) := by
  intro R F cst r Q G A a w K hkb h Rl hK
  unfold loHd at h
  split at h
  · rename_i d hdec
    obtain ⟨y, hy, h⟩ := Tr.run_val h
    obtain ⟨R1, hwf⟩ := Ls.dec_sound hdec Rl
    obtain ⟨n, hn⟩ := hF d y hwf hy
    refine loopN_sound htt hm hh hdr hkb hlp hn R1 ?_
    intro ex A' G' a' w' R' hd' hk
    have := decX_sound R' hd' hK hk h
    cases ex <;> exact this
  · cases h

/-! ### the loops of a function -/
abbrev Le := Nat × Code × List (Nat × Nat)
def leNo : Le := (0, .skip, [])
def fnCode (fn : Func) : Code := match fn.body with
  | some c => c
  | none => .skip
def tops (fn : Func) : List Le := loopsOf (lrOf fn) (fnCode fn) (lrOf fn) []
def subs (fn : Func) (e : Le) : List Le := loopsOf (lrOf fn) e.2.1 e.1 e.2.2
def topL (fn : Func) (j : Nat) : Le := (tops fn).getD j leNo
def subL (fn : Func) (e : Le) (j : Nat) : Le := (subs fn e).getD j leNo
def lpT : List (Nat × Lh) → Lp
  | [], _ => none
  | (g, h) :: l, f => bif Nat.beq g f then some h else lpT l f
def lpN (tt : TT) (hd : Hd) (dr : Dr) (lp : Lp) (kb : Nat) (fn : Func) (e : Le) {R : Type} (n : Nat) (A : AS) (K : Ex → AS → Option R) : Option R :=
  loopN e.1 kb (fun A K => ev tt hd dr lp kb (lrOf fn) e.2.1 e.1 e.2.2 A K) n A K
def LpsOk (P : Program) (kb : Nat) (lp : Lp) (es : List Le) (i : Nat) : Prop := ∀ j, i ≤ j → j < es.length → ∀ h, lp (firstId (es.getD j leNo).2.1) = some h → LhOk P kb (es.getD j leNo).2.1 h
theorem LpsOk.done {P : Program} {kb : Nat} {lp : Lp} {es : List Le} {i : Nat} (h : Nat.ble es.length i = true) : LpsOk P kb lp es i := fun j h1 h2 => by
  have := Nat.le_of_ble_eq_true h
  omega
theorem LpsOk.step {P : Program} {kb : Nat} {lp : Lp} {es : List Le} {i : Nat} {h0 : Lh} (e : lp (firstId (es.getD i leNo).2.1) = some h0) (h : LhOk P kb (es.getD i leNo).2.1 h0) (r : LpsOk P kb lp es (i + 1)) : LpsOk P kb lp es i := fun j h1 h2 g hg => by
  by_cases hj : j = i
  · subst hj
    rw [e] at hg
    cases hg
    exact h
  · exact r j (by omega) h2 g hg
theorem LpsOk.all {P : Program} {kb : Nat} {lp : Lp} {es : List Le} (h : LpsOk P kb lp es 0) : ∀ e ∈ es, ∀ g, lp (firstId e.2.1) = some g → LhOk P kb e.2.1 g := by
  intro e he g hg
  obtain ⟨j, hj⟩ := List.getElem?_of_mem he
  have hlt := (List.getElem?_eq_some_iff.1 hj).1
  have e0 : es.getD j leNo = e := by rw [List.getD_eq_getElem?_getD, hj]; rfl
  have := h j (Nat.zero_le _) hlt g
  rw [e0] at this
  exact this hg

/-- A loop of a function keeps to its summary. -/
theorem loop_sound {P : Program} {n : Nat} (hm : P.follows .mixedOrders = true) {cs : List (Nat × Hc)} (hcs : HcsOk P cs) {lp : Lp} {kb : Nat} {fn : Func} {e : Le} (hsub : LpsOk P kb lp (subs fn e) 0) (lo : Lo) (Fn : lo.st.den → Tr (DenX lo.xs))
    (hF : ∀ d y, lo.st.wf d → (Fn d).val = some y → ∃ k, lpN (ttOf P n) (hdT cs) (orderD (ttOf P n)) lp kb fn e k (lo.st.mk' d) (decX lo.xs) = some y) : LhOk P kb e.2.1 (loHd lo Fn) :=
  lo_sound (ttOf_ok P n) hm (hdT_ok hcs) (orderD_ok (ttOf_ok P n)) hsub.all lo Fn hF
/-- A function keeps to its contract. -/
theorem fn_sound {P : Program} {n : Nat} (hm : P.follows .mixedOrders = true) {cs : List (Nat × Hc)} (hcs : HcsOk P cs) {lp : Lp} {f : Nat} {fn : Func} (hf : P.funcs[f]? = some fn) (hname : (fn.name == "runtime.NumGoroutine") = false) (hbody : fn.body.isNone = false)
    (io : Io) (hlp : LpsOk P io.obs.length lp (tops fn) 0) (Fn : io.In → Tr io.Res) (hF : ∀ d out, io.wf d → (Fn d).val = some out → io.run (ttOf P n) (hdT cs) (orderD (ttOf P n)) lp fn d = some out) : HcOk P f (ioHd io Fn) := by
  refine io_sound (ttOf_ok P n) hm (hdT_ok hcs) (orderD_ok (ttOf_ok P n)) hf hname io lp (fun c hc => ?_) Fn (fun d out => hF d out) hbody
  have : fnCode fn = c := by unfold fnCode; rw [hc]
  have h := hlp.all
  unfold tops at h
  rw [this] at h
  exact h

end Go.Proofs.YtmlgepgcofmpeaaGreat.Sym

/- A function that defers a closure which recovers. -/
namespace Go.Proofs.YtmlgepgcofmpeaaGreat.Sym
open Go
set_option linter.unusedSimpArgs false
set_option linter.unusedVariables false

def seqL : Code → Code
  | .seq a _ => a
  | c => c
def seqR : Code → Code
  | .seq _ b => b
  | c => c
def condT : Code → Code
  | .cond _ t _ => t
  | c => c
def regOps : Code → Array Oper
  | .region _ ops _ => ops
  | _ => #[]
theorem noLoops {Pr : (Nat × Code × List (Nat × Nat)) → Prop} {lr l : Nat} {c : Code} {x : List (Nat × Nat)} (h : loopsOf lr c l x = []) : ∀ e ∈ loopsOf lr c l x, Pr e := by
  intro e he
  rw [h] at he
  cases he

noncomputable section
/-- Back in the function itself: its results. -/
def popK (tt : TT) (io : Io) (fn : Func) (A : AS) : Option io.Res := match A with
  | ⟨_, tm :: stk, ob⟩ => finRet tt io fn ⟨tm, stk, ob⟩
  | _ => none
/-- The deferred closure, with what it recovers; then the function's results. -/
def cloK (tt : TT) (hd : Hd) (okDraw : Dr) (kbG : Nat) (io : Io) (fn gfn : Func) (gops : Array Oper) (grest : Code) (ls : List Nat) (caps : List Cp) (rv : V) (A : AS) : Option io.Res :=
  evOps tt hd kbG gops ls ((⟨caps.map Cp.toV ++ List.replicate (gfn.ntmps - caps.length) .any, A.tm :: A.stk, A.ob⟩ : AS).put ((gops[0]?).bind (·.dst)) rv) fun ex A => match ex with
    | .normal => ev tt hd okDraw (fun _ => none) kbG 0 grest 0 [] A fun ex A => match ex with
      | .exit _ => none
      | .panic _ => none
      | _ => popK tt io fn A
    | _ => none
def defK (tt : TT) (hd : Hd) (okDraw : Dr) (kbG : Nat) (io : Io) (fn gfn : Func) (gops : Array Oper) (grest : Code) (ls : List Nat) (caps : List Cp) (ex : Ex) (A : AS) : Option io.Res :=
  match ex with
  | .exit _ => none
  | .panic v => cloK tt hd okDraw kbG io fn gfn gops grest ls caps v A
  | _ => cloK tt hd okDraw kbG io fn gfn gops grest ls caps (.one .nilif) A
/-- What is captured is objects alone, of keys below k. -/
def capsB (k : Nat) (caps : List Cp) : Bool := caps.all fun c => match c with
  | .ptr key _ => Nat.blt key k
  | .dat _ _ => false
def Io.runD (tt : TT) (hd : Hd) (okDraw : Dr) (lp : Lp) (kb2 kbG : Nat) (io : Io) (fn : Func) (g : Nat) (gfn : Func) (t : Nat) (d : io.In) : Option io.Res :=
  ev tt hd okDraw lp io.obs.length (lrOf fn) (seqL (fnCode fn)) (lrOf fn) [] (io.start fn.ntmps d) fun ex A => match ex with
    | .normal => evOps tt hd io.obs.length (regOps (seqL (seqR (fnCode fn)))) [0] A fun ex A => match ex with
      | .normal => match A.get t with
        | .one (.fn g' false caps) => bif g' == g && capsB kb2 caps then
            ev tt hd okDraw lp kb2 (lrOf fn) (seqR (seqR (fnCode fn))) (lrOf fn) [] A
              (defK tt hd okDraw kbG io fn gfn (regOps (seqL (fnCode gfn))) (seqR (fnCode gfn)) ((List.range (regOps (seqL (fnCode gfn))).size).drop 1) caps) else none
        | _ => none
      | _ => none
    | _ => none

section
variable {P : Program} {tt : TT}
theorem evOps_app (htt : TTok P tt) {hd : Hd} (hh : HdOk P hd) {R : Type} {F : Fra} {cst : List (Array Value)} {kb : Nat} (hkb : ∀ d, F.mu0 (kb + d) = none) {ops : Array Oper} {r : R} {Q : Exit → Act → World → Prop} (l2 : List Nat) : ∀ (l : List Nat) {G : Gh} {A : AS} {a : Act} {w : World} {K : Ex → AS → Option R},
    evOps tt hd kb ops l A K = some r → Rel F G A a.tmps cst w →
    (∀ ex A' G' a' w', Rel F G' A' a'.tmps cst w' → a'.defers = a.defers → K ex A' = some r → match ex with
      | .normal => wpOps P ops Q l2 a' w'
      | .exit id => Q (.exit id) a' w'
      | .ret => Q .ret a' w'
      | .panic v => ∀ u, Rv G' w' v u → Q (.panic [{ v := u, recovered := false }]) a' w') → wpOps P ops Q (l ++ l2) a w
  | [], G, A, a, w, K, h, Rl, hK => hK .normal A G a w Rl rfl h
  | i :: is, G, A, a, w, K, h, Rl, hK => by
    simp only [evOps] at h
    simp only [List.cons_append, wpOps]
    split at h
    · cases h
    · rename_i o ho
      rw [ho]
      simp only
      rcases guarded_cases Rl h with ⟨hw, A1, R1, h1⟩ | ⟨hw, A1, R1, h1⟩
      · rw [if_pos hw]
        refine .inl (evOp_sound htt hh R1 hkb [] o h1 ?_)
        intro ex A' G' a' w' R' hd' hk
        cases ex with
        | normal => exact fun _ => evOps_app htt hh hkb l2 is hk R' (by rw [hd']; exact hK)
        | exit id => exact hK _ A' G' a' w' R' hd' hk
        | ret => exact hK _ A' G' a' w' R' hd' hk
        | panic v => exact hK _ A' G' a' w' R' hd' hk
      · rw [if_neg (by simp [hw])]
        exact evOps_app htt hh hkb l2 is h1 R1 (by rw [Act.put_defers']; exact hK)

theorem evOps_soundS (htt : TTok P tt) {hd : Hd} (hh : HdOk P hd) {R : Type} {F : Fra} {cst : List (Array Value)} {kb : Nat} (hkb : ∀ d, F.mu0 (kb + d) = none) {ops : Array Oper} {r : R} {Q : Exit → Act → List Frame → World → Prop} {cs : List Frame} : ∀ (l : List Nat) {G : Gh} {A : AS} {a : Act} {w : World} {K : Ex → AS → Option R},
    evOps tt hd kb ops l A K = some r → Rel F G A a.tmps cst w → Post F cst a.defers r K (fun e a w => Q e a cs w) → wpOpsS P ops Q l a cs w
  | [], G, A, a, w, K, h, Rl, hK => hK .normal A G a w Rl rfl h
  | i :: is, G, A, a, w, K, h, Rl, hK => by
    simp only [evOps] at h
    simp only [wpOpsS]
    split at h
    · cases h
    · rename_i o ho
      rw [ho]
      simp only
      rcases guarded_cases Rl h with ⟨hw, A1, R1, h1⟩ | ⟨hw, A1, R1, h1⟩
      · rw [if_pos hw]
        have hop : o.wp P a w (fun a' w' => wpOpsS P ops Q is a' cs w') (fun e a' w' => Q e a' cs w') := by
          refine evOp_sound htt hh R1 hkb [] o h1 ?_
          intro ex A' G' a' w' R' hd' hk
          cases ex with
          | normal => exact fun _ => evOps_soundS htt hh hkb is hk R' (by rw [hd']; exact hK)
          | exit id => exact hK _ A' G' a' w' R' hd' hk
          | ret => exact hK _ A' G' a' w' R' hd' hk
          | panic v => exact hK _ A' G' a' w' R' hd' hk
        unfold Oper.wp at hop
        split
        · rename_i w' e
          rw [e] at hop
          exact hop.elim
        · exact hop
      · rw [if_neg (by simp [hw])]
        exact evOps_soundS htt hh hkb is h1 R1 (by rw [Act.put_defers']; exact hK)

/-- The deferred closure comes to its end, and has recovered what there was. -/
theorem clo_sound (htt : TTok P tt) (hm : P.follows .mixedOrders = true) {hd : Hd} (hh : HdOk P hd) {okDraw : Dr} (hdr : DrawOk P tt okDraw) {kbG : Nat} {io : Io} {fn gfn : Func} {g : Nat} {i2 : Nat} {gops : Array Oper} {grest : Code} {ls : List Nat} {caps : List Cp}
    (hg : P.funcs[g]? = some gfn) (hgb : gfn.body = some (.seq (.region i2 gops false) grest)) (hls : List.range gops.size = 0 :: ls) {oo : Oper} (hoo : gops[0]? = some oo)
    (hop : oo.op = .call { callee := .builtin .recover, args := #[], argTypes := #[] }) (hgd : oo.guard = none) (hres : gfn.results = #[]) (hl2 : loopsOf 0 grest 0 [] = [])
    {F : Fra} {G : Gh} {A : AS} {ts : Array Value} {cst : List (Array Value)} {w : World} (hkb : ∀ d, F.mu0 (kbG + d) = none) {rv : V} {out : io.Res}
    (h : cloK tt hd okDraw kbG io fn gfn gops grest ls caps rv A = some out) (Rl : Rel F G A ts cst w) {vs : Array Value} (hvs : All2 (Rcp G w) caps vs.toList) {u : FrameMode}
    (hu : (u = .returning ∧ rv = .one .nilif) ∨ ∃ uv, u = .panicking [{ v := uv, recovered := false }] ∧ Rv G w rv uv) :
    CallsD P g vs u w fun e u' w' => e = .returned (.tuple #[]) ∧ settle u' = .returning ∧ ∃ G' A', Rel F G' A' ts cst w' ∧ finRet tt io fn A' = some out := by
  refine callsD_of_wpS hg hgb ?_
  intro c₀ cs hmode
  refine wpS_seq (wpS_region ?_)
  rw [hls]
  simp only [wpOpsS, hoo]
  rw [if_pos (by simp [Region.wanted, hgd])]
  generalize hA0 : ({ tmps := vs ++ Array.replicate (gfn.ntmps - vs.size) undef, defers := [] } : Act) = a0
  have hrun : (execOp a0.eval oo).run P w = .ok .recover w := by
    simp [execOp, hop, resolve, invoke, builtin]
  rw [hrun]
  simp only
  have R0 : Rel F G ⟨caps.map Cp.toV ++ List.replicate (gfn.ntmps - caps.length) .any, A.tm :: A.stk, A.ob⟩ a0.tmps (ts :: cst) w := by
    refine ⟨?_, ⟨Rl.tm, Rl.stk⟩, Rl.ob, Rl.gh⟩
    rw [← hA0]
    have hl := hvs.length
    simp only [Array.toList_append, Array.toList_replicate]
    refine All2.append (hvs.map_left _ fun c v hc => Cp.toV_sound hc) ?_
    rw [hl, Array.length_toList]
    generalize gfn.ntmps - vs.size = n
    induction n with
    | zero => exact trivial
    | succ n ih => exact ⟨trivial, ih⟩
  have hd0 : a0.defers = [] := by rw [← hA0]
  -- what is recovered, and how the caller's frame goes on
  obtain ⟨uv, c₁, hrec, huv, hset⟩ : ∃ uv u', (recoverD (c₀ :: cs) = some (uv, { c₀ with mode := u' } :: cs) ∨ (recoverD (c₀ :: cs) = none ∧ uv = .nilIface ∧ { c₀ with mode := u' } :: cs = c₀ :: cs)) ∧ Rv G w rv uv ∧ settle u' = .returning := by
    rcases hu with ⟨rfl, rfl⟩ | ⟨uv, rfl, huv⟩
    · refine ⟨.nilIface, .returning, .inr ⟨by simp [recoverD, hmode], rfl, ?_⟩, rfl, rfl⟩
      rw [← hmode]
    · exact ⟨uv, .panicking [{ v := uv, recovered := true }], .inl (by simp [recoverD, hmode]), huv, rfl⟩
  suffices hgoal : wpOpsS P gops (Exit.thenS (grest.wpS P (bodyPostS P gfn c₀ cs fun e u' w' => e = .returned (.tuple #[]) ∧ settle u' = .returning ∧ ∃ G' A', Rel F G' A' ts cst w' ∧ finRet tt io fn A' = some out)) (bodyPostS P gfn c₀ cs fun e u' w' => e = .returned (.tuple #[]) ∧ settle u' = .returning ∧ ∃ G' A', Rel F G' A' ts cst w' ∧ finRet tt io fn A' = some out)) ls (a0.put oo.dst uv) ({ c₀ with mode := c₁ } :: cs) w by
    rcases hrec with hrec | ⟨hrec, e1, e2⟩
    · rw [hrec]; exact hgoal
    · rw [hrec]; rw [e1, e2] at hgoal; exact hgoal
  unfold cloK at h
  rw [hoo] at h
  have R1 := R0.puts huv oo.dst
  refine evOps_soundS htt hh hkb ls h R1 ?_
  intro ex A2 G2 a2 w2 R2 hd2 h2
  cases ex with
  | normal =>
    refine wpS_of_wp (ev_sound htt hm hh hdr hkb (lp := fun _ => none) grest (noLoops hl2) h2 R2 ?_)
    intro ex A3 G3 a3 w3 R3 hd3 h3
    have fin : ∀ (hk : popK tt io fn A3 = some out),
        bodyPostS P gfn c₀ cs (fun e u' w' => e = .returned (.tuple #[]) ∧ settle u' = .returning ∧ ∃ G' A', Rel F G' A' ts cst w' ∧ finRet tt io fn A' = some out) .ret a3 ({ c₀ with mode := c₁ } :: cs) w3 := by
      intro hk
      obtain ⟨tm3, stk3, ob3⟩ := A3
      cases stk3 with
      | nil => cases hk
      | cons tm stk =>
        refine ⟨hd3.trans (hd2.trans ((Act.put_defers' _ _ _).trans hd0)), c₁, rfl, .tuple #[], by simp [results, hres], rfl, hset, G3, ⟨tm, stk, ob3⟩, ⟨R3.stk.1, R3.stk.2, R3.ob, R3.gh⟩, hk⟩
    cases ex with
    | normal => exact fin h3
    | ret => exact fin h3
    | exit i => cases h3
    | panic v => cases h3
  | exit i => cases h2
  | ret => cases h2
  | panic v => cases h2

theorem GhOk.withMu {F : Fra} {G : Gh} {w : World} (h : GhOk F G w) (m : Nat → Option Nat) (hm : ∀ key b, m key = some b → G.mu key = some b) : GhOk { F with mu0 := m } G w :=
  ⟨h.mu, h.muI, h.ow, h.owI, h.sB, ⟨h.fr.os, h.fr.tape, h.fr.output, h.fr.size, h.fr.block⟩, h.sub, h.sup, h.keep, hm⟩
theorem GhOk.back {F : Fra} {G : Gh} {w : World} {m : Nat → Option Nat} (h : GhOk { F with mu0 := m } G w) (hm : ∀ key b, F.mu0 key = some b → G.mu key = some b) : GhOk F G w :=
  ⟨h.mu, h.muI, h.ow, h.owI, h.sB, ⟨h.fr.os, h.fr.tape, h.fr.output, h.fr.size, h.fr.block⟩, h.sub, h.sup, h.keep, hm⟩
theorem defer_sound (htt : TTok P tt) (hm : P.follows .mixedOrders = true) {hd : Hd} (hh : HdOk P hd) {okDraw : Dr} (hdr : DrawOk P tt okDraw) {f : Nat} {fn : Func} (hf : P.funcs[f]? = some fn) (hname : (fn.name == "runtime.NumGoroutine") = false)
    (io : Io) {kb2 kbG : Nat} (hkb2 : io.obs.length ≤ kb2) (hkbG : kb2 ≤ kbG) {i1 : Nat} {ops1 : Array Oper} (hb : fn.body = some (.seq (seqL (fnCode fn)) (.seq (.region i1 ops1 false) (seqR (seqR (fnCode fn)))))) (he1 : regOps (seqL (seqR (fnCode fn))) = ops1) (hs1 : List.range ops1.size = [0] ++ [1])
    {o1 : Oper} {t : Nat} {aT : Array TypeId} (ho1 : ops1[1]? = some o1) (hop1 : o1.op = .defer { callee := .value (.tmp t), args := #[], argTypes := aT }) (hg1 : o1.guard = none) (hd1 : o1.dst = none)
    {lp : Lp} (hl0 : loopsOf (lrOf fn) (seqL (fnCode fn)) (lrOf fn) [] = []) (hlp : ∀ e ∈ loopsOf (lrOf fn) (seqR (seqR (fnCode fn))) (lrOf fn) [], ∀ h, lp (firstId e.2.1) = some h → LhOk P kb2 e.2.1 h)
    {g : Nat} {gfn : Func} {i2 : Nat} {gops : Array Oper} {grest : Code} (hg : P.funcs[g]? = some gfn) (hgn : (gfn.name == "runtime.NumGoroutine") = false) (hgb : gfn.body = some (.seq (.region i2 gops false) grest)) (hge : regOps (seqL (fnCode gfn)) = gops) (hgr : seqR (fnCode gfn) = grest)
    (hls : List.range gops.size = 0 :: (List.range gops.size).drop 1) {oo : Oper} (hoo : gops[0]? = some oo)
    (hop : oo.op = .call { callee := .builtin .recover, args := #[], argTypes := #[] }) (hgd : oo.guard = none) (hres : gfn.results = #[]) (hl2 : loopsOf 0 grest 0 [] = [])
    (Fn : io.In → Tr io.Res) (hF : ∀ d out, io.wf d → (Fn d).val = some out → io.runD tt hd okDraw lp kb2 kbG fn g gfn t d = some out) : HcOk P f (ioHd io Fn) := by
  refine io_soundG htt hf hname io Fn (fun d out hwf hout F G cst w vals R Rl hkb hend => ?_) (by rw [hb]; rfl)
  have hrun := hF d out hwf hout
  unfold Io.runD at hrun
  rw [he1, hge, hgr] at hrun
  have hfn : FnOk P g := ⟨gfn, hg, hgn, by rw [hgb]; rfl⟩
  refine calls_of_wp_defers hf hb ?_
  refine wp_seq (ev_sound htt hm hh hdr hkb _ (noLoops hl0) hrun Rl ?_)
  intro ex A1 G1 a1 w1 R1 hdf1 h1
  cases ex with
  | exit i => cases h1
  | ret => cases h1
  | panic v => cases h1
  | normal =>
  show (Code.seq (.region i1 ops1 false) (seqR (seqR (fnCode fn)))).wp P _ a1 w1
  refine wp_seq (wp_region ?_)
  rw [hs1]
  refine evOps_app htt hh hkb [1] [0] h1 R1 ?_
  intro ex A2 G2 a2 w2 R2 hdf2 h2
  cases ex with
  | exit i => cases h2
  | ret => cases h2
  | panic v => cases h2
  | normal =>
  simp only at h2
  split at h2
  rotate_left
  · cases h2
  rename_i g' caps eg
  cases hgg : g' == g && capsB kb2 caps with
  | false => rw [hgg] at h2; cases h2
  | true =>
  rw [hgg] at h2
  simp only [cond_true] at h2
  simp only [Bool.and_eq_true, beq_iff_eq] at hgg
  obtain ⟨hgg, hcb⟩ := hgg
  subst hgg
  have hv := R2.opd (.tmp t)
  rw [show opd A2 (.tmp t) = A2.get t from rfl, eg] at hv
  obtain ⟨vs, ev, hvs⟩ := hv
  simp only [fnVal, cond_false] at ev
  simp only [wpOps, ho1]
  rw [if_pos (by simp [Region.wanted, hg1])]
  refine .inl ?_
  have hrun1 : (execOp a2.eval o1).run P w2 = .ok (.defer { target := .fn (.func g') vs, args := #[] }) w2 := by
    simp [execOp, hop1, resolve, ev, Deferred.ofValue]
  unfold Oper.wp
  rw [hrun1]
  simp only [Oper.upon, hd1]
  have hinv : (invoke (.fn (.func g') vs) #[]).run P = fun w => .ok (.enter g' vs) w := by
    funext w
    simp [invoke, hfn.run]
  show (seqR (seqR (fnCode fn))).wp P (bodyPostD P fn R) ({ a2 with defers := _ :: a2.defers } : Act) w2
  have hdf : a2.defers = [] := hdf2.trans hdf1
  rw [hdf]
  let m : Nat → Option Nat := fun key => if key < kb2 then G2.mu key else none
  have hm0 : ∀ key b, F.mu0 key = some b → m key = some b := fun key b hb => by
    have hlt : key < kb2 := by
      rcases Nat.lt_or_ge key io.obs.length with h | h
      · omega
      · have := hkb (key - io.obs.length)
        rw [show io.obs.length + (key - io.obs.length) = key by omega, hb] at this
        cases this
    show (if key < kb2 then G2.mu key else none) = some b
    rw [if_pos hlt]
    exact R2.gh.fix_ key b hb
  have hmk : ∀ kb, kb2 ≤ kb → ∀ d, ({ F with mu0 := m } : Fra).mu0 (kb + d) = none := fun kb hkb d => by
    show (if kb + d < kb2 then G2.mu (kb + d) else none) = none
    rw [if_neg (by omega)]
  have R2' : Rel { F with mu0 := m } G2 A2 a2.tmps cst w2 := ⟨R2.tm, R2.stk, R2.ob, R2.gh.withMu m fun key b hb => by
    have hb : (if key < kb2 then G2.mu key else none) = some b := hb
    split at hb
    · exact hb
    · cases hb⟩
  refine ev_sound htt hm hh hdr (hmk kb2 (Nat.le_refl _)) (lp := lp) _ hlp h2 (a := { a2 with defers := [{ target := .fn (.func g') vs, args := #[] }] }) R2' ?_
  intro ex A3 G3 a3 w3 R3 hdf3 h3
  have hvs3 : All2 (Rcp G3 w3) caps vs.toList := hvs.mono fun c hc v hv => by
    have hcc := List.all_eq_true.1 hcb c hc
    cases c with
    | ptr key off =>
      obtain ⟨b, hb, e⟩ := hv
      have hlt : key < kb2 := by simpa using hcc
      exact ⟨b, R3.gh.fix_ key b (by show (if key < kb2 then G2.mu key else none) = some b; rw [if_pos hlt]; exact hb), e⟩
    | dat t x => cases hcc
  have leave : ∀ (rv : V) (u : FrameMode), u ≠ .run → ((u = .returning ∧ rv = .one .nilif) ∨ ∃ uv, u = .panicking [{ v := uv, recovered := false }] ∧ Rv G3 w3 rv uv) →
      cloK tt hd okDraw kbG io fn gfn gops grest ((List.range gops.size).drop 1) caps rv A3 = some out → Leaves P fn a3.tmps R a3.defers u w3 := by
    intro rv u hne hu h
    rw [hdf3]
    refine leaves_cons hne (by rw [hinv]) ?_
    refine (clo_sound htt hm hh hdr hg hgb hls hoo hop hgd hres hl2 (hmk kbG hkbG) h R3 hvs3 hu).mono ?_
    rintro e u' w' ⟨rfl, hset, G', A', R', hfin⟩
    simp only
    rw [hset]
    exact hend .ret A' G' { tmps := a3.tmps, defers := [] } w' ⟨R'.tm, R'.stk, R'.ob, R'.gh.back fun key b hb => R'.gh.fix_ key b (hm0 key b hb)⟩ hfin
  cases ex with
  | exit i => cases h3
  | normal => exact leave _ _ (by simp) (.inl ⟨rfl, rfl⟩) h3
  | ret => exact leave _ _ (by simp) (.inl ⟨rfl, rfl⟩) h3
  | panic v => exact fun uv huv => leave _ _ (by simp) (.inr ⟨uv, rfl, huv⟩) h3
end
end
end Go.Proofs.YtmlgepgcofmpeaaGreat.Sym

/- What all contracts of this program use. -/
namespace Go.Proofs.YtmlgepgcofmpeaaGreat.Sym
open Go
set_option linter.unusedSimpArgs false
set_option linter.unusedVariables false
noncomputable section

noncomputable abbrev tt : TT := ttOf Go.Proofs.Tryz.prog 400
noncomputable def dr : Dr := orderD (ttOf Go.Proofs.Tryz.prog 400)
theorem hm : Go.Proofs.Tryz.prog.follows .mixedOrders = true := by kernel_rfl
noncomputable abbrev prog : Program := Go.Proofs.Tryz.prog

noncomputable abbrev bs : Ty := .sl 5 (.int .u8)
noncomputable abbrev dL : Sh := .dat bs false false
noncomputable abbrev dO : Sh := .dat bs false true
noncomputable abbrev dI : Sh := .dat (.int .i64) false false
noncomputable abbrev dB : Sh := .dat .bool false false
noncomputable abbrev dU : Sh := .dat (.int .u8) false false

theorem wrap_id {k : IntKind} {n : Int} (h : inR k n) : k.wrap n = n := by
  unfold inR at h
  cases k <;> simp [IntKind.wrap, IntKind.min, IntKind.max, IntKind.signed, IntKind.bits] at * <;> (try split) <;> omega
theorem wrap_i64 {n : Int} (h0 : -9223372036854775808 ≤ n) (h : n ≤ 9223372036854775807) : IntKind.wrap .i64 n = n := by
  apply wrap_id
  simp [inR, IntKind.min, IntKind.max, IntKind.signed, IntKind.bits]
  omega
theorem maxLen_eq : maxLen = 9223372036854775807 := rfl
/-- Counting up by one. -/
theorem wrap_succ {i n : Nat} (h : i < n) (hn : n ≤ maxLen) : IntKind.wrap .i64 ((i : Int) + 1) = ((i + 1 : Nat) : Int) := by
  rw [wrap_i64] <;> rw [maxLen_eq] at hn <;> omega
theorem bif_true {α : Type} {c : Bool} (h : c = true) (a b : α) : (bif c then a else b) = a := by rw [h]; rfl
theorem bif_false {α : Type} {c : Bool} (h : c = false) (a b : α) : (bif c then a else b) = b := by rw [h]; rfl
theorem getD_lt {α : Type} {xs : List α} {i : Nat} {d : α} (h : i < xs.length) : xs.getD i d = xs[i] := by simp [List.getD, h]

theorem Tr.val_ret {α : Type} (a : α) : (Tr.ret a).val = some a := rfl
theorem Tr.val_no {α : Type} : (Tr.no : Tr α).val = none := rfl
theorem Tr.val_ite {α : Type} (c : Bool) (t e : Tr α) : (Tr.ite c t e).val = if c = true then t.val else e.val := by cases c <;> rfl
theorem Tr.run_ret {α R : Type} (a : α) (K : α → Option R) : (Tr.ret a).run K = K a := rfl
theorem Tr.run_no {α R : Type} (K : α → Option R) : (Tr.no : Tr α).run K = none := rfl
theorem Tr.run_ite {α R : Type} (c : Bool) (t e : Tr α) (K : α → Option R) : (Tr.ite c t e).run K = if c = true then t.run K else e.run K := by cases c <;> rfl
theorem Tr.guard {α : Type} {c : Bool} {t : Tr α} {y : α} (h : (Tr.ite c t .no).val = some y) : c = true ∧ t.val = some y := by
  cases c with
  | true => exact ⟨rfl, h⟩
  | false => cases h
theorem toNat_of {i : Int} (h : 0 ≤ i) : ∃ n : Nat, i = n := ⟨i.toNat, by omega⟩

end
end Go.Proofs.YtmlgepgcofmpeaaGreat.Sym

/- leatref01: Same, Copy. -/
namespace Go.Proofs.YtmlgepgcofmpeaaGreat.Sym
open Go
set_option linter.unusedSimpArgs false
set_option linter.unusedVariables false
noncomputable section

/-! ### leat/leatref01.Same -/
noncomputable abbrev ioSame : Io := ⟨[dL, dL], [], [], [dB], none⟩
noncomputable def FSame (d : ioSame.In) : Tr ioSame.Res := .ret (.ret ((decide (d.1.1 = d.1.2.1), ()), ()))
noncomputable abbrev csSame : List (Nat × Hc) := []
noncomputable def hdSame : Hd := hdT csSame
noncomputable abbrev loSame_5 : Lo := ⟨⟨[.one (.hol (.sl 5 (Ty.int IntKind.u8))), .one (.hol (.sl 5 (Ty.int IntKind.u8))), .any, .any, .any, .one (.hol (.int IntKind.i64)), .any, .any, .any, .any, .any, .any, .any, .any, .any, .any, .any, .any, .any, .any, .any, .any, .any, .any, .any, .any], []⟩, [(.ret, ⟨[.any, .any, .any, .any, .one (.hol .bool), .any, .any, .any, .any, .any, .any, .any, .any, .any, .any, .any, .any, .any, .any, .any, .any, .any, .any, .any, .any, .any], []⟩), (.exit 0, ⟨[.any, .any, .any, .any, .any, .any, .any, .any, .any, .any, .any, .any, .any, .any, .any, .any, .any, .any, .any, .any, .any, .any, .any, .any, .any, .any], []⟩)]⟩
-- FSame_5 : loSame_5.st.den → Tr (DenX loSame_5.xs) | ((h2, (h3, (h4, ()))), ())
noncomputable def FSame_5 (d : loSame_5.st.den) : Tr (DenX loSame_5.xs) :=
  .ite (decide (0 ≤ d.1.2.2.1) && decide (d.1.1.length = d.1.2.1.length)) (.ite (decide (d.1.1.drop d.1.2.2.1.toNat = d.1.2.1.drop d.1.2.2.1.toNat)) (.ret (.pan (.ret ((), ((), ()))))) (.ret (.ret ((), ((false, ()), ()))))) .no
noncomputable def lpSame : Lp := lpT [(5, loHd loSame_5 FSame_5)]
noncomputable def stepSame_5 {R : Type} (h2 : List Int) (h3 : List Int) (h4 : Int) (next : List Int → List Int → Int → Option R) (out : DenX loSame_5.xs → Option R) : Option R := bif decide (h4 < (↑h2.length : Int)) then bif decide (0 ≤ h4) && decide (h4 < (↑h2.length : Int)) then bif decide (0 ≤ h4) && decide (h4 < (↑h3.length : Int)) then bif h2.getD h4.toNat 0 != h3.getD h4.toNat 0 then out (.ret ((), ((false, ()), ()))) else next (h2) (h3) (IntKind.i64.wrap (h4 + 1)) else none else none else out (.pan (.ret ((), ((), ()))))
noncomputable def itSame_5 (n : Nat) (h2 : List Int) (h3 : List Int) (h4 : Int) : Option (DenX loSame_5.xs) := lpN tt hdSame dr lpSame 0 Go.Proofs.Tryz.f31 (topL Go.Proofs.Tryz.f31 0) n (loSame_5.st.mk' ((h2, (h3, (h4, ()))), ())) (decX loSame_5.xs)
theorem slSame_5 (n : Nat) (h2 : List Int) (h3 : List Int) (h4 : Int) : itSame_5 (n + 1) h2 h3 h4 = stepSame_5 h2 h3 h4 (itSame_5 n) some := by kernel_rfl
theorem loopSame (xs ys : List Int) (hl : xs.length = ys.length) (hb : xs.length ≤ maxLen) : ∀ (k i : Nat), i ≤ xs.length → xs.length < i + k →
    itSame_5 k xs ys (i : Int) = if xs.drop i = ys.drop i then some (.pan (.ret ((), ((), ())))) else some (.ret ((), ((false, ()), ()))) := by
  intro k
  induction k with
  | zero => intro i h h'; omega
  | succ k ih =>
    intro i hi h
    rw [slSame_5]
    unfold stepSame_5
    by_cases h1 : i < xs.length
    · have h2 : i < ys.length := by omega
      rw [wrap_succ h1 hb, ih (i + 1) h1 (by omega)]
      have e : (xs.drop i = ys.drop i) ↔ (xs[i] = ys[i] ∧ xs.drop (i + 1) = ys.drop (i + 1)) := by rw [List.drop_eq_getElem_cons h1, List.drop_eq_getElem_cons h2, List.cons.injEq]
      simp only [Int.toNat_natCast, getD_lt h1, getD_lt h2]
      by_cases he : xs[i] = ys[i] <;> simp [h1, h2, he, e, cond_eq_ite]
    · rw [List.drop_of_length_le (by omega), List.drop_of_length_le (by omega)]
      simp [h1]
noncomputable def bodySame (a0 : List Int) (a1 : List Int) : Option ioSame.Res := bif (↑a0.length : Int) != (↑a1.length : Int) then some (Out.ret ((false, ()), ())) else (FSame_5 ((a0, (a1, (0, ()))), ())).run fun y => match y with | .ret ((), ((x9, ()), ())) => (some (Out.ret ((x9, ()), ()))) | .pan (.ret ((), ((), ()))) => (some (Out.ret ((true, ()), ())))
theorem runSame (a0 : List Int) (a1 : List Int) : Io.run tt hdSame dr lpSame ioSame Go.Proofs.Tryz.f31 ((a0, a1, ()), ()) = bodySame a0 a1 := by kernel_rfl
theorem okSame : HcOk prog 31 (ioHd ioSame FSame) := by
  refine fn_sound (n := 400) hm (cs := csSame) HcsOk.nil (lp := lpSame) (fn := Go.Proofs.Tryz.f31) (by kernel_rfl) (by kernel_rfl) (by kernel_rfl) ioSame
    (.step (h0 := loHd loSame_5 FSame_5) (by kernel_rfl) (loop_sound (n := 400) hm (cs := csSame) HcsOk.nil (lp := lpSame) (fn := Go.Proofs.Tryz.f31) (.done (by kernel_rfl)) loSame_5 FSame_5 ?_) (.done (by kernel_rfl))) FSame ?_
  · rintro ⟨⟨xs, ys, i, ⟨⟩⟩, ⟨⟩⟩ y hw hy
    obtain ⟨hg, hy⟩ := Tr.guard hy
    simp only [Bool.and_eq_true, decide_eq_true_eq] at hg
    obtain ⟨n, rfl⟩ := toNat_of hg.1
    by_cases hn : n ≤ xs.length
    · refine ⟨xs.length + 1, (loopSame xs ys hg.2 hw.1.1.1 _ n hn (by omega)).trans ?_⟩
      rw [← hy]
      simp only [Tr.val_ite, decide_eq_true_eq, Int.toNat_natCast, Tr.val_ret]
    · refine ⟨1, ?_⟩
      show itSame_5 (0 + 1) xs ys n = _
      rw [slSame_5, ← hy]
      unfold stepSame_5
      have h1 : ¬ n < xs.length := by omega
      simp [Tr.val_ite, Tr.val_ret, h1, List.drop_of_length_le (show xs.length ≤ n by omega), List.drop_of_length_le (show ys.length ≤ n by omega)]
  · rintro ⟨⟨xs, ys, ⟨⟩⟩, ⟨⟩⟩ out hw ho
    refine (runSame xs ys).trans ?_
    cases ho
    unfold bodySame
    by_cases hl : xs.length = ys.length
    · by_cases he : xs = ys
      · subst he; simp [FSame_5, Tr.run]
      · simp [FSame_5, Tr.run, hl, he]
    · have : xs ≠ ys := fun e => hl (by rw [e])
      have h2 : (xs.length : Int) ≠ ys.length := by omega
      simp [this, h2, cond_eq_ite]

end
end Go.Proofs.YtmlgepgcofmpeaaGreat.Sym

/- From the reading of a call's arguments to data; a law's call. -/
namespace Go.Proofs.YtmlgepgcofmpeaaGreat.Sym
open Go
open Go.ChangeShapes Go.WideShapes Go.ChangeAt Go.RowKit
set_option linter.unusedSimpArgs false
set_option linter.unusedVariables false

/-- Does a type stand for these data? (a type, or fields from an offset on) -/
def okTF (P : Program) : Ty → (TypeId ⊕ (List Field × Nat)) → Bool
  | .int k, .inl t => match P.underlying t with
    | some (.int k') => decide (k' = k)
    | _ => false
  | .bool, .inl t => match P.underlying t with
    | some .bool => true
    | _ => false
  | .str, .inl t => match P.underlying t with
    | some .string => true
    | _ => false
  | .sl e ty, .inl t => match P.underlying t with
    | some (.slice e') => (e' == e) && (okTF P ty (.inl e) && ((P.cellsOf e == ty.size) && !(ty.size == 0)))
    | _ => false
  | .prod a b, .inl t => match P.underlying t with
    | some (.struct fs) => (P.cellsOf t == a.size + b.size) && match fs.toList with
      | f :: fs' => (f.offset == 0) && ((P.cellsOf f.type == a.size) && (okTF P a (.inl f.type) && okTF P b (.inr (fs', a.size))))
      | [] => false
    | _ => false
  | .unit, .inr ([], _) => true
  | .prod a b, .inr (f :: fs, off) => (f.offset == off) && ((P.cellsOf f.type == a.size) && (okTF P a (.inl f.type) && okTF P b (.inr (fs, off + a.size))))
  | _, _ => false

/-- How much the data hold. -/
def dsz : (t : Ty) → t.den → Nat
  | .int _, _ => 1
  | .bool, _ => 1
  | .str, s => List.length (α := Int) s + 1
  | .sl _ t, xs => (List.map (dsz t) xs).sum + 1
  | .unit, _ => 0
  | .prod a b, x => dsz a x.1 + dsz b x.2
  | .tree _ _, _ => 0

def S0 (W : World) (b o : Nat) : Prop := ∃ v, W.cell? ⟨b, o, none⟩ = some v

section
variable {P : Program} {W : World} {H : Type} {enc : TypeId × Value → H} {sp : Nat → Bool} {held : Bool}

theorem cells_at {a : Addr} {n : Nat} {cs : List Value} (h : W.cells? 0 a n = some cs) (hn : 0 < n) : a.spot = none ∧ cs.length = n ∧ At (S0 W) W a.block a.off cs := by
  simp only [World.cells?, Nat.zero_le, if_true] at h
  have hl := mapM_some_length h
  rw [List.length_range] at hl
  have hg : ∀ i, i < n → W.cell? (a.add i) = cs[i]? := fun i hi => mapM_some_get h i i (by simp [hi])
  have hsp : a.spot = none := by
    have h0 := hg 0 hn
    rw [List.getElem?_eq_getElem (by omega)] at h0
    unfold World.cell? at h0
    split at h0
    · split at h0
      · cases h0
      · rename_i hs
        cases e : a.spot with
        | none => rfl
        | some x => simp [Addr.add, e] at hs
    · cases h0
  refine ⟨hsp, hl, fun j v hv => ?_⟩
  have hj : j < n := by rw [← hl]; exact (List.getElem?_eq_some_iff.1 hv).1
  have := hg j hj
  rw [hv] at this
  have e : a.add j = ⟨a.block, a.off + j, none⟩ := by
    obtain ⟨b, o, s⟩ := a
    simp only at hsp
    subst hsp
    exact Addr.add_plain ..
  rw [e] at this
  exact ⟨⟨v, this⟩, this⟩

theorem okT_notUnit {t : TypeId} : okTF P .unit (.inl t) = false := by simp [okTF]

theorem trod_dat (ub : DataW H → Nat) (uba : List (DataW H) → Nat) (u1 : ∀ l, 1 ≤ ub (.lit l)) (u2 : ∀ bs, bs.length + 1 ≤ ub (.lit (.string bs))) (u3 : 1 ≤ ub .nil) (u4 : ∀ es ss, uba es + 1 ≤ ub (.slice es ss)) (u5 : ∀ ps, uba ps ≤ ub (.agg ps))
    (u6 : ∀ d ds, uba (d :: ds) = ub d + uba ds) (u7 : uba [] = 0) :
    ∀ (ty : Ty), (∀ (t : TypeId), okTF P ty (.inl t) = true → ∀ (fuel : Nat) (cs : List Value) (x : DataW H × List MemPlace), DataW.trod enc P W 0 sp held fuel t cs = some x → ∃ y : ty.den, Rt (S0 W) W ty y cs ∧ dsz ty y ≤ ub x.1) ∧
      (∀ (fs : List Field) (off : Nat), okTF P ty (.inr (fs, off)) = true → ∀ (fuel : Nat) (cs : List Value) (xs : List (DataW H × List MemPlace)), fs.mapM (fun f => DataW.trod enc P W 0 sp held fuel f.type ((cs.drop f.offset).take (P.cellsOf f.type))) = some xs →
        (cs.drop off).length = ty.size → ∃ y : ty.den, Rt (S0 W) W ty y (cs.drop off) ∧ dsz ty y ≤ uba (xs.map (·.1)))
  | .int k => by
    refine ⟨fun t ht fuel cs x h => ?_, fun fs off ht => by cases fs <;> simp [okTF] at ht⟩
    simp only [okTF] at ht
    split at ht
    · rename_i k' hu
      have ht := of_decide_eq_true ht
      subst ht
      obtain ⟨n2, rfl, rfl, hw⟩ := DataW.trod_int hu h
      refine ⟨n2, ⟨rfl, ?_⟩, u1 _⟩
      simpa [Lit.wf, inR] using hw
    · cases ht
  | .bool => by
    refine ⟨fun t ht fuel cs x h => ?_, fun fs off ht => by cases fs <;> simp [okTF] at ht⟩
    simp only [okTF] at ht
    split at ht
    · rename_i hu
      obtain ⟨b, rfl, rfl⟩ := DataW.trod_bool hu h
      exact ⟨b, rfl, u1 _⟩
    · cases ht
  | .str => by
    refine ⟨fun t ht fuel cs x h => ?_, fun fs off ht => by cases fs <;> simp [okTF] at ht⟩
    simp only [okTF] at ht
    split at ht
    · rename_i hu
      obtain ⟨s, rfl, rfl, hl⟩ := DataW.trod_string hu h
      refine ⟨unStr s, ⟨by rw [mkStr_unStr], unStr_byteR s, ?_⟩, ?_⟩
      · have : (unStr s).length = s.size := by rw [← mkStr_size, mkStr_unStr]
        rw [this]; exact hl
      · have : (unStr s).length = s.data.toList.length := by unfold unStr; exact List.length_map _
        show (unStr s).length + 1 ≤ _
        rw [this]
        exact u2 _
    · cases ht
  | .unit => by
    refine ⟨fun t ht => by simp [okTF] at ht, fun fs off ht fuel cs xs h hl => ?_⟩
    refine ⟨(), ?_, Nat.zero_le _⟩
    exact List.eq_nil_of_length_eq_zero hl
  | .sl e ty => by
    refine ⟨fun t ht fuel cs x h => ?_, fun fs off ht => by cases fs <;> simp [okTF] at ht⟩
    simp only [okTF] at ht
    split at ht
    · rename_i e' hu
      simp only [Bool.and_eq_true, beq_iff_eq, Bool.not_eq_true', beq_eq_false_iff_ne] at ht
      obtain ⟨rfl, hT, hsz, hpos⟩ := ht
      have ih := (trod_dat ub uba u1 u2 u3 u4 u5 u6 u7 ty).1 e' hT
      rcases DataW.trod_slice hu h with ⟨rfl, rfl⟩ | ⟨a, len, cap, elems, rest, n, _, rfl, rfl, hb, hl, hm, hlen, hel, _, _⟩
      · exact ⟨[], ⟨none, 0, rfl, Nat.le_refl _, Nat.zero_le _, fun h => absurd rfl h⟩, u3⟩
      · have each : ∀ i, i < len → ∃ y : ty.den, (∃ c, Rt (S0 W) W ty y c ∧ (i = 0 → a.spot = none) ∧ At (S0 W) W a.block (a.off + i * ty.size) c) ∧ ∃ d, elems[i]? = some d ∧ dsz ty y ≤ ub d.1 := by
          intro i hi
          have h1 := hel i hi
          rw [List.getElem?_eq_getElem (by omega)] at h1
          obtain ⟨c, hc, hd⟩ := Option.bind_eq_some_iff.1 h1
          obtain ⟨y, hy, hs⟩ := ih _ _ _ hd
          rw [hsz] at hc
          obtain ⟨h2, h3, h4⟩ := cells_at hc (by omega)
          have e1 : (a.add (i * ty.size)).block = a.block := by unfold Addr.add; split <;> rfl
          have e2 : (a.add (i * ty.size)).off = a.off + i * ty.size := by
            unfold Addr.add
            split
            · rename_i h0; rw [h0]; rfl
            · rfl
          rw [e1, e2] at h4
          refine ⟨y, ⟨c, hy, fun h0 => ?_, h4⟩, elems[i], by simp, hs⟩
          subst h0
          simpa [Addr.add] using h2
        have mk : ∀ m, m ≤ len → ∃ ys : List ty.den, ys.length = m ∧ (∀ i y, ys[i]? = some y → ∃ c, Rt (S0 W) W ty y c ∧ (i = 0 → a.spot = none) ∧ At (S0 W) W a.block (a.off + i * ty.size) c) ∧ (ys.map (dsz ty)).sum ≤ uba ((elems.take m).map (·.1)) := by
          intro m
          induction m with
          | zero => intro _; exact ⟨[], rfl, fun i y h => by simp at h, by simp⟩
          | succ m ihm =>
            intro hm'
            obtain ⟨ys, g1, g2, g3⟩ := ihm (by omega)
            obtain ⟨y, g4, d, g5, g6⟩ := each m (by omega)
            refine ⟨ys ++ [y], by simp [g1], fun i z hz => ?_, ?_⟩
            · rw [List.getElem?_append] at hz
              split at hz
              · exact g2 i z hz
              · rename_i hlt
                have : i = m := by
                  have := (List.getElem?_eq_some_iff.1 hz).1
                  simp at this; omega
                subst this
                simp [g1] at hz
                subst hz
                exact g4
            · have hap : ∀ (xs bs : List (DataW H)), uba (xs ++ bs) = uba xs + uba bs := by
                intro xs bs
                induction xs with
                | nil => simp [u7]
                | cons c xs ih => rw [List.cons_append, u6, u6, ih]; omega
              rw [List.take_add_one, g5]
              simp only [List.map_append, List.sum_append, hap, Option.toList, List.map_cons, List.map_nil, List.sum_cons, List.sum_nil, u6, u7]
              omega
        obtain ⟨ys, g1, g2, g3⟩ := mk len (Nat.le_refl _)
        refine ⟨ys, ⟨some a, cap, by rw [g1], by omega, hm, fun hne => ?_⟩, ?_⟩
        · have h0 : 0 < ys.length := List.length_pos_iff.2 hne
          obtain ⟨c, _, hsp, _⟩ := g2 0 ys[0] (by simp)
          have hsp := hsp rfl
          refine ⟨a.block, a.off, ?_, fun i y hy => ?_⟩
          · obtain ⟨b, o, s⟩ := a
            simp only at hsp
            rw [hsp]
          · obtain ⟨c, hc, _, hat⟩ := g2 i y hy
            exact ⟨c, hc, hat⟩
        · rw [List.take_of_length_le (by omega)] at g3
          show (ys.map (dsz ty)).sum + 1 ≤ _
          exact Nat.le_trans (by omega) (u4 _ _)
    · cases ht
  | .tree a e => ⟨fun t ht => by simp [okTF] at ht, fun fs off ht => by cases fs <;> simp [okTF] at ht⟩
  | .prod a b => by
    have step : ∀ (f : Field) (fs : List Field) (off : Nat), ((f.offset == off) && ((P.cellsOf f.type == a.size) && (okTF P a (.inl f.type) && okTF P b (.inr (fs, off + a.size))))) = true →
        ∀ (fuel : Nat) (cs : List Value) (xs : List (DataW H × List MemPlace)), (f :: fs).mapM (fun f => DataW.trod enc P W 0 sp held fuel f.type ((cs.drop f.offset).take (P.cellsOf f.type))) = some xs →
        (cs.drop off).length = a.size + b.size → ∃ y : a.den × b.den, Rt (S0 W) W (.prod a b) y (cs.drop off) ∧ dsz a y.1 + dsz b y.2 ≤ uba (xs.map (·.1)) := by
      intro f fs off ht fuel cs xs h hl
      simp only [Bool.and_eq_true, beq_iff_eq] at ht
      obtain ⟨rfl, hs, hA, hB⟩ := ht
      simp only [List.mapM_cons, Option.bind_eq_bind, Option.bind_eq_some_iff] at h
      obtain ⟨x0, h0, xs', h1, h2⟩ := h
      simp only [Option.pure_def, Option.some.injEq] at h2
      subst h2
      rw [hs] at h0
      obtain ⟨y1, hy1, hd1⟩ := (trod_dat ub uba u1 u2 u3 u4 u5 u6 u7 a).1 f.type hA _ _ _ h0
      have hl2 : (cs.drop (f.offset + a.size)).length = b.size := by
        simp only [List.length_drop] at hl ⊢
        omega
      obtain ⟨y2, hy2, hd2⟩ := (trod_dat ub uba u1 u2 u3 u4 u5 u6 u7 b).2 fs _ hB _ _ _ h1 hl2
      refine ⟨(y1, y2), ⟨_, _, ?_, hy1, hy2⟩, ?_⟩
      · rw [← List.drop_drop, List.take_append_drop]
      · simp only [List.map_cons, u6]
        omega
    refine ⟨fun t ht fuel cs x h => ?_, fun fs off ht fuel cs xs h hl => ?_⟩
    · simp only [okTF] at ht
      split at ht
      · rename_i fs hu
        simp only [Bool.and_eq_true, beq_iff_eq] at ht
        obtain ⟨hsz, ht⟩ := ht
        split at ht
        · rename_i f fs' hfs
          cases fuel with
          | zero => simp [DataW.trod] at h
          | succ n =>
            unfold DataW.trod at h
            rw [hu] at h
            simp only at h
            split at h
            · rename_i hlen
              obtain ⟨xs, hxs, rfl⟩ := Option.map_eq_some_iff.1 h
              rw [hfs] at hxs
              obtain ⟨y, hy, hd⟩ := step f fs' 0 (by simpa using ht) n cs xs hxs (by simpa [hsz] using hlen)
              exact ⟨y, by simpa using hy, Nat.le_trans hd (u5 _)⟩
            · cases h
        · cases ht
      · cases ht
    · cases fs with
      | nil => simp [okTF] at ht
      | cons f fs => exact step f fs off (by simpa only [okTF] using ht) fuel cs xs h hl

theorem datOf {ty : Ty} {t : TypeId} (ht : okTF P ty (.inl t) = true) {fuel : Nat} {cs : List Value} {d : DataW H} {ps : List MemPlace} (h : DataW.trod enc P W 0 sp held fuel t cs = some (d, ps)) : ∃ y : ty.den, Rt (S0 W) W ty y cs ∧ dsz ty y ≤ Rows.uptoBulk d :=
  (trod_dat Rows.uptoBulk Rows.uptoBulkAll (fun l => by cases l <;> simp [Rows.uptoBulk]) (fun bs => by simp [Rows.uptoBulk]) (by simp [Rows.uptoBulk]) (fun es ss => by simp [Rows.uptoBulk]) (fun ps => by simp [Rows.uptoBulk]) (fun d ds => by simp [Rows.uptoBulkAll]) (by simp [Rows.uptoBulkAll]) ty).1 t ht fuel cs _ h
theorem dsz_pos_sum {t : Ty} (hp : ∀ x : t.den, 1 ≤ dsz t x) : ∀ xs : List t.den, xs.length ≤ (xs.map (dsz t)).sum
  | [] => by simp
  | x :: xs => by
    have := dsz_pos_sum hp xs
    have := hp x
    simp only [List.length_cons, List.map_cons, List.sum_cons]
    omega
theorem dsz_len {e : Nat} {k : IntKind} (xs : (Ty.sl e (.int k)).den) : List.length xs ≤ dsz (.sl e (.int k)) xs := by
  have := dsz_pos_sum (t := .int k) (fun _ => Nat.le_refl 1) xs
  show _ ≤ (List.map (dsz (.int k)) xs).sum + 1
  exact Nat.le_trans this (Nat.le_succ _)

/-! ### a law's call -/
def G0 (W : World) : Gh := ⟨S0 W, fun _ => none, fun _ => none⟩
def F0 (W : World) : Fra := ⟨W, fun _ => False, S0 W, fun _ => none⟩
theorem rel0 (W : World) : Rel (F0 W) (G0 W) ⟨[], [], []⟩ #[] [] W where
  tm := trivial
  stk := trivial
  ob := fun k cs h => by simp at h
  gh := ⟨fun _ _ h => (by cases h), fun _ _ _ h => (by cases h), fun _ _ _ h => (by cases h), fun _ _ _ _ _ h => (by cases h), fun b o h => (by
      obtain ⟨v, h⟩ := h
      unfold World.cell? at h
      split at h
      · rename_i e
        exact (Array.getElem?_eq_some_iff.1 e).1
      · cases h), ⟨rfl, rfl, rfl, Nat.le_refl _, fun _ _ _ => rfl⟩, fun _ _ h => h, fun _ _ h => .inl h, fun _ _ _ => rfl, fun _ _ h => (by cases h)⟩
def lawK (oc : Oc) (A : AS) : Option Unit := match oc with
  | .ret (.one (.bool true)) _ => some ()
  | _ => none
theorem law_calls {f : Nat} {io : Io} {Fn : io.In → Tr io.Res} (hok : HcOk P f (ioHd io Fn)) {args : List V} {vals : Array Value} (hargs : All2 (Rv (G0 W) W) args vals.toList) (hrun : ioHd io Fn Unit args 1 ⟨[], [], []⟩ lawK = some ()) :
    Calls P f vals W fun e w' => e = .returned (.bool true) ∧ w'.os = W.os ∧ w'.output = W.output ∧ ∀ i, i < W.heap.size → w'.heap[i]? = W.heap[i]? := by
  refine (hok Unit args 1 _ lawK () (F0 W) (G0 W) #[] [] W vals (fun _ => rfl) hrun (rel0 W) hargs).2.mono ?_
  rintro e w' ⟨G', A', v, u, R', hv, h⟩
  have hfr := R'.gh.fr
  refine ⟨?_, hfr.os, hfr.output, fun i hi => hfr.block i hi (fun h => h)⟩
  rcases h with ⟨rfl, ks, _, hk⟩ | ⟨rfl, hk⟩
  · unfold lawK at hk
    split at hk
    · rename_i e
      cases e
      rw [show u = .bool true from hv]
    · cases hk
  · cases hk

/-! ### arguments -/
def argV (ty : Ty) (y : ty.den) : V := bif ty.isProd then .agg (toCs ty y) else match toCs ty y with
  | [c] => .one c
  | _ => .any
theorem argV_sound {G : Gh} {ty : Ty} {y : ty.den} {v : Value} (h : Rt G.S W ty y v.cells.toList) (hp : ty.isProd = true → ∃ vs, v = .agg vs) (hn : ty.isProd = false → v.cells = #[v]) : Rv G W (argV ty y) v := by
  have hs := toCs_sound (G := G) (w := W) ty y _ h
  unfold argV
  cases hb : ty.isProd with
  | true =>
    obtain ⟨vs, rfl⟩ := hp hb
    exact ⟨vs, rfl, hs⟩
  | false =>
    rw [hn hb] at hs
    simp only [cond_false]
    split
    · rename_i c e
      rw [e] at hs
      exact hs.1
    · trivial
theorem arg_shape {ty : Ty} {t : TypeId} (ht : okTF P ty (.inl t) = true) {r : Reach} {base : Nat} {v : Value} (hval : Value.okWide P W r base t v) : (ty.isProd = true → ∃ vs, v = .agg vs) ∧ (ty.isProd = false → v.cells = #[v]) := by
  cases ty with
  | tree a e => simp [okTF] at ht
  | int k =>
    refine ⟨fun h => (by cases h), fun _ => ?_⟩
    simp only [okTF] at ht
    split at ht
    · rename_i k' hu
      cases v <;> simp [Value.okWide, hu, Cell.okWide, Cell.ok] at hval <;> rfl
    · cases ht
  | bool =>
    refine ⟨fun h => (by cases h), fun _ => ?_⟩
    simp only [okTF] at ht
    split at ht
    · rename_i hu
      cases v <;> simp [Value.okWide, hu, Cell.okWide, Cell.ok] at hval <;> rfl
    · cases ht
  | str =>
    refine ⟨fun h => (by cases h), fun _ => ?_⟩
    simp only [okTF] at ht
    split at ht
    · rename_i hu
      cases v <;> simp [Value.okWide, hu, Cell.okWide, Cell.ok] at hval <;> rfl
    · cases ht
  | sl e ty =>
    refine ⟨fun h => (by cases h), fun _ => ?_⟩
    simp only [okTF] at ht
    split at ht
    · rename_i e' hu
      cases v <;> simp [Value.okWide, hu, Cell.okWide, Cell.ok] at hval <;> rfl
    · cases ht
  | unit => simp [okTF] at ht
  | prod a b =>
    refine ⟨fun _ => ?_, fun h => (by cases h)⟩
    simp only [okTF] at ht
    split at ht
    · rename_i fs hu
      simp only [Value.okWide, hu] at hval
      obtain ⟨cs, rfl, _⟩ := hval
      exact ⟨cs, rfl⟩
    · cases ht
/-- No slice's elements are without cells. -/
def slicesB (P : Program) : Bool := (List.range P.types.size).all fun t => match P.underlying t with
  | some (.slice e) => decide (0 < P.cellsOf e)
  | _ => true
theorem args_stay (hl : laidOutB P = true) (hm : mapsRowed P = true) (hs : slicesB P = true) {W' : World} (hk : ∀ i, i < W.heap.size → W'.heap[i]? = W.heap[i]?) : ∀ {ts : List TypeId} {vs : List Value} {ds : List (DataW H)} {ps : List MemPlace},
    (∀ t ∈ ts, t < P.types.size) → DataW.TrodAll enc P W 0 (fun _ => true) true ts vs ds ps → (∀ p ∈ ps, sp p.block = true) → DataW.TrodAll enc P W' 0 sp true ts vs ds ps
  | [], [], [], _, _, h, _ => h
  | t :: ts, v :: vs, d :: ds, ps, hT, ⟨p, q, ⟨fuel, h1⟩, h2, e⟩, hsp => by
    refine ⟨p, q, ⟨fuel, DataW.trod_stays (kids_rows hl hm) (fun {t e} ht hu => ?_) (fun h => (by cases h)) (hT t (by simp)) h1 (fun x hx => ?_) fun x hx => hsp x (by rw [e]; exact List.mem_append_left _ hx)⟩,
      args_stay hl hm hs hk (fun t ht => hT t (by simp [ht])) h2 (fun x hx => hsp x (by rw [e]; exact List.mem_append_right _ hx)), e⟩
    · have := List.all_eq_true.1 hs t (by simpa using ht)
      rw [hu] at this
      exact of_decide_eq_true this
    · have hb := DataW.trod_lt _ _ _ _ h1 x hx
      cases x with
      | cell b off => simp [World.sameAt, World.cell?, hk b hb]
      | map b => exact hk b hb
  | [], [], _ :: _, _, _, h, _ => h.elim
  | [], _ :: _, _, _, _, h, _ => h.elim
  | _ :: _, [], _, _, _, h, _ => h.elim
  | _ :: _, _ :: _, [], _, _, h, _ => h.elim

/-- The world behind the call is the old one and new blocks: what the law says follows. -/
theorem post_law {f : Func} {s : ChangeSpec} {apart fresh handsOn again : Bool} {W' : World} {args : Array Value} {ds gs : List (DataW H)} {before : List MemPlace}
    (hl : laidOutB P = true) (hm : mapsRowed P = true) (hs : slicesB P = true) (hT : ∀ t ∈ f.params.toList, t < P.types.size) {tb : TypeId} (hr : f.resultTypes = #[tb]) (htb : P.underlying tb = some .bool) (hv : s.vars = [])
    (hW : DataW.Whole enc P f.params.toList s.vars apart W args.toList ds gs before) (hfn : s.fn H (ds ++ gs) = { results := [.lit (.bool true)], args := ds })
    (hos : W'.os = W.os) (hout : W'.output = W.output) (hk : ∀ i, i < W.heap.size → W'.heap[i]? = W.heap[i]?) : s.post enc P f apart fresh handsOn again W args (.bool true) W' := by
  have hlt := hW.lt
  obtain ⟨p, q, hA, hV, hpq, hfz, hnd⟩ := id hW
  rw [hv] at hV
  obtain ⟨rfl, rfl⟩ := trodVars_none hV
  rw [List.append_nil] at hpq
  subst hpq
  have hres : ∀ (b : Nat) (sp : Nat → Bool) (hd : Bool), DataW.TrodAll enc P W' b sp hd f.resultTypes.toList ((Value.bool true).resultList f.resultTypes.size) [.lit (.bool true)] [] := by
    intro b sp hd
    rw [hr]
    exact trodAll_cons_mk (shut_bool htb _) trodAll_mk0
  have hargs : ∀ sp : Nat → Bool, (∀ x ∈ before, sp x.block = true) → DataW.TrodAll enc P W' 0 sp true f.params.toList args.toList ds before :=
    fun sp hsp => args_stay hl hm hs hk hT hA hsp
  have hvars : ∀ sp : Nat → Bool, DataW.TrodVars enc P W' sp s.vars [] [] := by
    intro sp
    rw [hv]
    rfl
  have hold : ∀ x ∈ before, (fun b => decide (b < W.heap.size)) x.block = true := fun x hx => by simpa using hlt x hx
  have hkept : ∀ may : MemPlace → Prop, W.keptBut W' may := fun may => ⟨hos, hout, fun i hi => by
    rw [hk i hi]
    cases h : W.heap[i]? with
    | none => rfl
    | some o => cases o <;> simp⟩
  refine ⟨ds, [], before, [], before, [], hW, by rw [hfn]; exact hres _ _ _, by rw [hfn]; exact hargs _ hold, by rw [hfn]; exact hvars _, hkept _, fun _ => ?_⟩
  refine ⟨ok_one hr rfl (okWide_bool_mk htb true), [.lit (.bool true)] ++ ds, [], [] ++ before, ⟨[] ++ before, [], trodAll_append (hargs _ fun _ _ => rfl) (hres _ _ _), hvars _, by simp, fun b off hx => ?_, fun ha => by simpa using hnd ha⟩, fun x hx _ => by simpa using hx⟩
  have hx : MemPlace.cell b off ∈ before := by simpa using hx
  rw [← hfz b off hx]
  simp [World.frozen?, hk b (hlt _ hx)]

/-! ### all arguments -/
@[reducible] def TysDen : List Ty → Type
  | [] => Unit
  | t :: ts => t.den × TysDen ts
def argVs : (tys : List Ty) → TysDen tys → List V
  | [], _ => []
  | t :: ts, y => argV t y.1 :: argVs ts y.2
def dszs : (tys : List Ty) → TysDen tys → Nat
  | [], _ => 0
  | t :: ts, y => dsz t y.1 + dszs ts y.2
def wfs : (tys : List Ty) → TysDen tys → Prop
  | [], _ => True
  | t :: ts, y => t.wf y.1 ∧ wfs ts y.2
def okTs (P : Program) : List Ty → List TypeId → Bool
  | [], [] => true
  | ty :: tys, t :: ts => okTF P ty (.inl t) && okTs P tys ts
  | _, _ => false
theorem args_dat {r : Reach} {base : Nat} : ∀ (tys : List Ty) (ts : List TypeId), okTs P tys ts = true → ∀ {vs : List Value} {ds : List (DataW H)} {ps : List MemPlace}, DataW.TrodAll enc P W 0 sp held ts vs ds ps →
    (∀ (j : Nat) t v, ts[j]? = some t → vs[j]? = some v → Value.okWide P W r base t v) →
    ∃ ys : TysDen tys, All2 (Rv (G0 W) W) (argVs tys ys) vs ∧ dszs tys ys ≤ Rows.uptoBulkAll ds ∧ wfs tys ys ∧ ds.length = tys.length
  | [], [], _, [], [], _, _, _ => ⟨(), trivial, Nat.zero_le _, trivial, rfl⟩
  | ty :: tys, t :: ts, ht, v :: vs, d :: ds, _, ⟨p, q, ⟨fuel, h1⟩, h2, _⟩, hv => by
    simp only [okTs, Bool.and_eq_true] at ht
    obtain ⟨y, hy, hs⟩ := datOf ht.1 h1
    obtain ⟨k1, k2⟩ := arg_shape ht.1 (hv 0 t v rfl rfl)
    obtain ⟨ys, g1, g2, g3, g4⟩ := args_dat tys ts ht.2 h2 fun j t' v' e1 e2 => hv (j + 1) t' v' (by simpa using e1) (by simpa using e2)
    refine ⟨(y, ys), ⟨argV_sound hy k1 k2, g1⟩, ?_, ⟨Rt.wf ty y _ hy, g3⟩, by simp [g4]⟩
    simp only [dszs, Rows.uptoBulkAll]
    omega
  | [], [], _, [], _ :: _, _, h, _ => h.elim
  | [], [], _, _ :: _, _, _, h, _ => h.elim
  | _ :: _, _ :: _, _, [], _, _, h, _ => h.elim
  | _ :: _, _ :: _, _, _ :: _, [], _, h, _ => h.elim
  | [], _ :: _, h, _, _, _, _, _ => by cases h
  | _ :: _, [], h, _, _, _, _, _ => by cases h

/-- A law's row, from its contract. -/
theorem law_contract {fn : Func} {f : Nat} {io : Io} {Fn : io.In → Tr io.Res} (hok : HcOk P f (ioHd io Fn)) {s : ChangeSpec} (tys : List Ty) (hts : okTs P tys fn.params.toList = true)
    (hl : laidOutB P = true) (hm : mapsRowed P = true) (hs : slicesB P = true) (hT : ∀ t ∈ fn.params.toList, t < P.types.size) {tb : TypeId} (hr : fn.resultTypes = #[tb]) (htb : P.underlying tb = some .bool) (hv : s.vars = [])
    (hfn : ∀ ds : List (DataW H), ds.length = tys.length → s.fn H ds = { results := [.lit (.bool true)], args := ds })
    (hrun : ∀ ys : TysDen tys, dszs tys ys ≤ 1048576 → wfs tys ys → ioHd io Fn Unit (argVs tys ys) 1 ⟨[], [], []⟩ lawK = some ())
    (base : Nat) (args : Array Value) (ds gs : List (DataW H)) (before : List MemPlace)
    (hval : ∀ (j : Nat) t v, fn.params[j]? = some t → args[j]? = some v → Value.okWide P W .any base t v)
    (hW : DataW.Whole enc P fn.params.toList s.vars false W args.toList ds gs before) (hk : Rows.uptoSmall H (ds ++ gs) = true) :
    Calls P f args W fun e W' => ∃ v, e = .returned v ∧ s.post enc P fn false true false false W args v W' := by
  have hW' := hW
  obtain ⟨p, q, hA, hV, _, _, _⟩ := hW
  rw [hv] at hV
  obtain ⟨rfl, rfl⟩ := trodVars_none hV
  obtain ⟨ys, g1, g2, g3, g4⟩ := args_dat tys fn.params.toList hts hA fun j t v e1 e2 => hval j t v (by simpa using e1) (by simpa using e2)
  have hb : Rows.uptoBulkAll ds ≤ 1048576 := by simpa [Rows.uptoSmall] using hk
  refine (law_calls hok (vals := args) (args := argVs tys ys) g1 (hrun ys (by omega) g3)).mono ?_
  rintro e W' ⟨rfl, hos, hout, hkeep⟩
  exact ⟨_, rfl, post_law hl hm hs hT hr htb hv hW' (by rw [List.append_nil]; exact hfn ds g4) hos hout hkeep⟩
end
end Go.Proofs.YtmlgepgcofmpeaaGreat.Sym

/- A region that may be carried out in several orders, where what is reached depends only on which operations have come. -/
namespace Go.Proofs.YtmlgepgcofmpeaaGreat.Sym
open Go
set_option linter.unusedSimpArgs false
set_option linter.unusedVariables false

def AllP {α : Type} (Q : α → Prop) : List α → Prop
  | [] => True
  | a :: l => Q a ∧ AllP Q l
theorem AllP.mem {α : Type} {Q : α → Prop} : ∀ {l : List α}, AllP Q l → ∀ a ∈ l, Q a
  | _ :: _, h, a, ha => by
    rcases List.mem_cons.1 ha with rfl | ha
    · exact h.1
    · exact AllP.mem h.2 a ha
  | [], _, a, ha => by cases ha

noncomputable section
/-- One operation of a region. -/
def stepI (tt : TT) (hd : Hd) (kb : Nat) (ops : Array Oper) (i : Nat) (A : AS) (K : AS → Option Unit) : Option Unit :=
  match ops[i]? with
  | some o => guarded ops o A (fun A => evOp tt hd kb [] o A fun ex A' => match ex with
    | .normal => K A'
    | _ => none) K
  | none => none
/-- All that may have come, and what may come next. -/
def nextI (ops : Array Oper) (L : Array Bool) : List (Array Bool × Nat) := (Region.ready .any ops L).map fun i => (L, i)
def levI (ops : Array Oper) : Nat → List (Array Bool)
  | 0 => [Array.replicate ops.size false]
  | n + 1 => ((levI ops n).flatMap fun L => (nextI ops L).map fun p => p.1.setIfInBounds p.2 true).eraseDups
def pairsI (ops : Array Oper) : List (Array Bool × Nat) := (List.range ops.size).flatMap fun n => (levI ops n).flatMap (nextI ops)
/-- Each way of all goes on and ends. -/
def okI (ops : Array Oper) : Nat → Nat → Bool
  | 0, n => (levI ops n).all fun L => (Region.ready .any ops L).isEmpty
  | k + 1, n => ((levI ops n).all fun L => !(Region.ready .any ops L).isEmpty && (Region.ready .any ops L).all fun i => (levI ops (n + 1)).contains (L.setIfInBounds i true)) && okI ops k (n + 1)

section
variable {P : Program} {tt : TT}
theorem ideals_sound (htt : TTok P tt) {hd : Hd} (hh : HdOk P hd) {F : Fra} {cst : List (Array Value)} {kb : Nat} (hkb : ∀ d, F.mu0 (kb + d) = none) {ops : Array Oper} {Q : Exit → Act → World → Prop} {dfs : List Deferred}
    (st : Array Bool → AS) (hs : ∀ n, n < ops.size → ∀ L ∈ levI ops n, ∀ i ∈ Region.ready .any ops L, ∀ K, stepI tt hd kb ops i (st L) K = K (st (L.setIfInBounds i true)))
    (hQ : ∀ L ∈ levI ops ops.size, ∀ G a w, Rel F G (st L) a.tmps cst w → a.defers = dfs → Q .normal a w) :
    ∀ (k n : Nat), n + k = ops.size → okI ops k n = true → ∀ L ∈ levI ops n, ∀ G a w, Rel F G (st L) a.tmps cst w → a.defers = dfs → wpAny P .any ops Q k L a w
  | 0, n, hn, hok, L, hL, G, a, w, R, hd' => by
    simp only [okI, List.all_eq_true, List.isEmpty_iff] at hok
    simp only [Nat.add_zero] at hn
    subst hn
    exact ⟨hok L hL, hQ L hL G a w R hd'⟩
  | k + 1, n, hn, hok, L, hL, G, a, w, R, hdf => by
    simp only [okI, Bool.and_eq_true, List.all_eq_true, Bool.not_eq_true', List.isEmpty_eq_false_iff, List.contains_iff_mem] at hok
    obtain ⟨hok, hok'⟩ := hok
    obtain ⟨h1, h2⟩ := hok L hL
    refine ⟨fun e => absurd e h1, fun i hi => ?_⟩
    have hst := hs n (by omega) L hL i hi
    have hL' := h2 i hi
    have ih := ideals_sound htt hh hkb st hs hQ k (n + 1) (by omega) hok' (L.setIfInBounds i true) hL'
    have hst1 := hst fun A => open Classical in if A = st (L.setIfInBounds i true) then some () else none
    rw [if_pos rfl] at hst1
    unfold stepI at hst1
    unfold wpOp
    cases ho : ops[i]? with
    | none => rw [ho] at hst1; cases hst1
    | some o =>
      rw [ho] at hst1
      simp only at hst1 ⊢
      rcases guarded_cases R hst1 with ⟨hw, A1, R1, g1⟩ | ⟨hw, A1, R1, g1⟩
      · rw [if_pos hw]
        refine .inl (evOp_sound htt hh R1 hkb [] o g1 ?_)
        intro ex A' G' a' w' R' hd' hk
        cases ex with
        | normal =>
          intro _
          simp only at hk
          split at hk
          · rename_i e; subst e; exact ih G' a' w' R' (hd'.trans hdf)
          · cases hk
        | exit id => cases hk
        | ret => cases hk
        | panic v => cases hk
      · rw [if_neg (by simp [hw])]
        split at g1
        · rename_i e; subst e; exact ih G _ w R1 ((Act.put_defers' _ _ _).trans hdf)
        · cases g1

/-- The region, by what is reached. -/
theorem region_ideals (htt : TTok P tt) (hm : P.follows .mixedOrders = true) {hd : Hd} (hh : HdOk P hd) {F : Fra} {cst : List (Array Value)} {kb : Nat} (hkb : ∀ d, F.mu0 (kb + d) = none) {id : Nat} {ops : Array Oper} {Q : Exit → Act → World → Prop}
    (st : Array Bool → AS) (hok : okI ops ops.size 0 = true) (hs : AllP (fun p => ∀ K, stepI tt hd kb ops p.2 (st p.1) K = K (st (p.1.setIfInBounds p.2 true))) (pairsI ops))
    {G : Gh} {a : Act} {w : World} (R : Rel F G (st (Array.replicate ops.size false)) a.tmps cst w)
    (hQ : ∀ L ∈ levI ops ops.size, ∀ G' a' w', Rel F G' (st L) a'.tmps cst w' → a'.defers = a.defers → Q .normal a' w') : (Code.region id ops true).wp P Q a w := by
  refine wp_region_any hm ?_
  refine ideals_sound htt hh hkb st (fun n hn L hL i hi K => hs.mem (L, i) ?_ K) hQ ops.size 0 (by omega) hok _ (by simp [levI]) G a _ R.drew rfl
  simp only [pairsI, List.mem_flatMap, List.mem_range, nextI, List.mem_map]
  exact ⟨n, hn, L, hL, i, hi, rfl⟩
end
end

end Go.Proofs.YtmlgepgcofmpeaaGreat.Sym

/- Calls of functions that only compute: the caller's state stays as it was, lists that nothing else leans on may be looked at, and the list that is handed out is leant on by nothing. -/
namespace Go.Proofs.YtmlgepgcofmpeaaGreat.Sym
open Go
set_option linter.unusedSimpArgs false
set_option linter.unusedVariables false

/-! ## lists that nothing leans on, seen as data for a while -/
def C.thaw : C → C
  | .ex e t lo xs i j => bif Nat.beq lo 0 then .lst e t xs 0 else .top
  | .eel _ _ _ _ _ => .top
  | .lst e t xs _ => .lst e t xs 0
  | .ptr _ _ => .top
  | .fn _ _ _ => .top
  | c => c
def V.thaw : V → V
  | .one c => .one c.thaw
  | .agg cs => .agg (cs.map C.thaw)
  | _ => .any
/-- Types that lean on no memory. -/
def Ty.flatB : Ty → Bool
  | .sl _ _ => false
  | .tree _ _ => false
  | .prod a b => a.flatB && b.flatB
  | _ => true
theorem Rt.flat {S S' : Nat → Nat → Prop} {w w' : World} : ∀ (t : Ty) (x : t.den) (cs : List Value), t.flatB = true → Rt S w t x cs → Rt S' w' t x cs
  | .int _, _, _, _, h => h
  | .bool, _, _, _, h => h
  | .str, _, _, _, h => h
  | .unit, _, _, _, h => h
  | .prod a b, _, _, hf, ⟨c1, c2, e, h1, h2⟩ => by
    simp only [Ty.flatB, Bool.and_eq_true] at hf
    exact ⟨c1, c2, e, Rt.flat a _ _ hf.1 h1, Rt.flat b _ _ hf.2 h2⟩
  | .sl _ _, _, _, hf, _ => by cases hf
  | .tree _ _, _, _, hf, _ => by cases hf
/-- What is handed out: flat, or a list of its own. -/
def hardC : C → Option C
  | .int k n => some (.int k n)
  | .bool b => some (.bool b)
  | .str s => some (.str s)
  | .lst e t xs own => bif !(own == 0) && t.flatB then some (.ex e t 0 xs own own) else none
  | _ => none
def hardCs : List C → Option (List C)
  | [] => some []
  | c :: cs => match hardC c, hardCs cs with
    | some c, some cs => some (c :: cs)
    | _, _ => none
def hardPs : List (Bool × List C) → Option (List (Bool × List C))
  | [] => some []
  | p :: ps => match hardCs p.2, hardPs ps with
    | some cs, some ps => some ((p.1, cs) :: ps)
    | _, _ => none
def hardV : V → Option V
  | .one c => (hardC c).map .one
  | .agg cs => (hardCs cs).map .agg
  | .tup ps => (hardPs ps).map .tup
  | .any => none
def ownsC : C → List Nat
  | .lst _ _ _ own => [own]
  | _ => []
def ownsV : V → List Nat
  | .one c => ownsC c
  | .agg cs => cs.flatMap ownsC
  | .tup ps => ps.flatMap fun p => p.2.flatMap ownsC
  | .any => []
/-- All are i. -/
def allI (i : Nat) : List Nat → Bool
  | [] => true
  | j :: js => Nat.beq j i && allI i js

noncomputable section
def pureHd (h : Hc) : Hc := fun _ args id A K => h _ (args.map V.thaw) id ⟨[], [], []⟩ fun oc _ => match oc with
  | .ret v _ => match hardV v, ownsV v with
    | some v', [] => v'.force fun v' => K (.ret v' (some [])) A
    | some v', i :: is => bif !(i == 0) && allI i is then v'.force fun v' => (A.map (C.noOwn i)).force fun A => K (.ret v' (some [])) A else none
    | none, _ => none
  | .pan _ => none

/-! ## soundness -/
/-- A world with new blocks behind. -/
structure Grown (w w' : World) : Prop where
  os : w'.os = w.os
  tape : w'.tape = w.tape
  output : w'.output = w.output
  size : w.heap.size ≤ w'.heap.size
  old : ∀ k, k < w.heap.size → w'.heap[k]? = w.heap[k]?
theorem Grown.cell {w w' : World} (g : Grown w w') {b o : Nat} (hb : b < w.heap.size) : w'.cell? ⟨b, o, none⟩ = w.cell? ⟨b, o, none⟩ := by
  simp [World.cell?, g.old b hb]

section
variable {F : Fra} {G : Gh} {w w' : World}
/-- The caller's ghost, with one block more that i owns. -/
def Gh.owned (G : Gh) (i : Nat) (o : Option Nat) : Gh := ⟨G.S, G.mu, fun j => if j = i then o.map (·, 0) else G.ow j⟩
theorem Goes.grown (h : GhOk F G w) (g : Grown w w') (i : Nat) (o : Option Nat) : Goes G (G.owned i o) w w' none (some i) where
  kept := fun b p hs => ⟨hs, g.cell (h.sB b p hs)⟩
  mu := fun _ _ hb _ => hb
  ow := fun j b l hj hne => by
    have : j ≠ i := fun e => hne (by rw [e])
    exact ⟨by simp [Gh.owned, this, hj], g.old b (h.ow j b l hj).2.2.1⟩
theorem GhOk.grown (h : GhOk F G w) (g : Grown w w') (i : Nat) (o : Option Nat) (ho : ∀ b, o = some b → w.heap.size ≤ b ∧ b < w'.heap.size) : GhOk F (G.owned i o) w' where
  mu := fun key b hb => let ⟨h1, h2, h3⟩ := h.mu key b hb; ⟨h1, h2, Nat.lt_of_lt_of_le h3 g.size⟩
  muI := h.muI
  ow := fun j b l hj => by
    simp only [Gh.owned] at hj ⊢
    split at hj
    · cases o with
      | none => cases hj
      | some b0 =>
        simp only [Option.map_some, Option.some.injEq, Prod.mk.injEq] at hj
        obtain ⟨rfl, rfl⟩ := hj
        obtain ⟨h1, h2⟩ := ho b0 rfl
        exact ⟨fun p _ hs => by have := h.sB _ _ hs; omega, .inl (Nat.le_trans h.fr.size h1), h2, fun key hk => by have := (h.mu key _ hk).2.2; omega⟩
    · obtain ⟨h1, h2, h3, h4⟩ := h.ow j b l hj
      exact ⟨h1, h2, Nat.lt_of_lt_of_le h3 g.size, h4⟩
  owI := fun j k b l l' hj hk => by
    simp only [Gh.owned] at hj hk
    have hb : ∀ b l, o.map (·, 0) = some (b, l) → w.heap.size ≤ b := fun b l e => by
      cases o with
      | none => cases e
      | some b0 => cases e; exact (ho _ rfl).1
    split at hj <;> split at hk
    · rename_i e1 e2; exact e1.trans e2.symm
    · have := hb _ _ hj; have := (h.ow k _ _ hk).2.2.1; omega
    · have := hb _ _ hk; have := (h.ow j _ _ hj).2.2.1; omega
    · exact h.owI j k b l l' hj hk
  sB := fun b p hs => Nat.lt_of_lt_of_le (h.sB b p hs) g.size
  fr := h.fr.alloc g.os g.tape g.output g.size g.old
  sub := h.sub
  sup := h.sup
  keep := fun b p hs => (g.cell (h.sB b p (h.sub b p hs))).trans (h.keep b p hs)
  fix_ := h.fix_
theorem Rel.grown {A : AS} {ts : Array Value} {cst : List (Array Value)} (R : Rel F G A ts cst w) (g : Grown w w') (i : Nat) (o : Option Nat) (ho : ∀ b, o = some b → w.heap.size ≤ b ∧ b < w'.heap.size) : Rel F (G.owned i o) (A.map (C.noOwn i)) ts cst w' :=
  R.map (fun c v h => h.noOwn (Goes.grown R.gh g i o)) (fun _ => rfl) (fun key b hb => ⟨hb, g.old b (R.gh.mu key b hb).2.2⟩) (R.gh.grown g i o ho)
theorem Goes.grown0 (h : GhOk F G w) (g : Grown w w') : Goes G G w w' none none where
  kept := fun b p hs => ⟨hs, g.cell (h.sB b p hs)⟩
  mu := fun _ _ hb _ => hb
  ow := fun j b l hj _ => ⟨hj, g.old b (h.ow j b l hj).2.2.1⟩
theorem Rel.grown0 {A : AS} {ts : Array Value} {cst : List (Array Value)} (R : Rel F G A ts cst w) (g : Grown w w') : Rel F G A ts cst w' := by
  have h0 : GhOk F G w' := by
    refine ⟨fun key b hb => ?_, R.gh.muI, fun j b l hj => ?_, R.gh.owI, fun b p hs => Nat.lt_of_lt_of_le (R.gh.sB b p hs) g.size, R.gh.fr.alloc g.os g.tape g.output g.size g.old, R.gh.sub, R.gh.sup, fun b p hs => (g.cell (R.gh.sB b p (R.gh.sub b p hs))).trans (R.gh.keep b p hs), R.gh.fix_⟩
    · obtain ⟨h1, h2, h3⟩ := R.gh.mu key b hb
      exact ⟨h1, h2, Nat.lt_of_lt_of_le h3 g.size⟩
    · obtain ⟨h1, h2, h3, h4⟩ := R.gh.ow j b l hj
      exact ⟨h1, h2, Nat.lt_of_lt_of_le h3 g.size, h4⟩
  have := R.map (f := id) (fun c v h => h.goes (Goes.grown0 R.gh g) (fun _ e => by cases e) (fun _ e => by cases e)) (fun _ => rfl) (fun key b hb => ⟨hb, g.old b (R.gh.mu key b hb).2.2⟩) h0
  rwa [AS.map_id] at this

/-! ### the callee's ghost -/
def thawS (G : Gh) : Nat → Nat → Prop := fun b o => G.S b o ∨ ∃ i, G.ow i = some (b, 0)
def thawGh (G : Gh) : Gh := ⟨thawS G, fun _ => none, fun _ => none⟩
def thawFra (G : Gh) (w : World) : Fra := ⟨w, fun _ => False, thawS G, fun _ => none⟩
theorem thaw_rel (h : GhOk F G w) : Rel (thawFra G w) (thawGh G) ⟨[], [], []⟩ #[] [] w := by
  have hs : ∀ b o, thawS G b o → b < w.heap.size := by
    rintro b o (hs | ⟨i, hi⟩)
    · exact h.sB b o hs
    · exact (h.ow i b 0 hi).2.2.1
  have hg : GhOk (thawFra G w) (thawGh G) w :=
    { mu := fun _ _ h => by cases h
      muI := fun _ _ _ h => by cases h
      ow := fun _ _ _ h => by cases h
      owI := fun _ _ _ _ _ h => by cases h
      sB := hs
      fr := ⟨rfl, rfl, rfl, Nat.le_refl _, fun _ _ _ => rfl⟩
      sub := fun _ _ h => h
      sup := fun _ _ h => .inl h
      keep := fun _ _ _ => rfl
      fix_ := fun _ _ h => by cases h }
  exact ⟨trivial, trivial, fun k cs hk => by simp at hk, hg⟩
theorem thawK (G : Gh) (w : World) : Kept G.S (thawGh G).S w w := fun _ _ h => ⟨.inl h, rfl⟩
theorem C.thaw_sound {c : C} {v : Value} (h : Rc G w c v) : Rc (thawGh G) w c.thaw v := by
  have hcell := h.cell
  cases c with
  | ex e t lo xs i j =>
    simp only [C.thaw]
    cases hl : Nat.beq lo 0 with
    | false => exact hcell
    | true =>
      have hl := Nat.eq_of_beq_eq_true hl
      subst hl
      simp only [cond_true]
      rcases h with ⟨_, rfl, rfl⟩ | ⟨b, cap, rfl, ⟨_, _, ho⟩, cur, el, hh, h1, h2, h3, h4⟩
      · exact ⟨none, 0, rfl, Nat.le_refl _, by simp [maxLen], fun hne => absurd rfl hne, .inl rfl⟩
      · rw [Nat.zero_add] at h2 ⊢
        refine ⟨_, cap, rfl, h2, h3, fun _ => ⟨b, 0, rfl, fun k x hx => ?_⟩, .inl rfl⟩
        obtain ⟨c, hc, hu⟩ := h4 k x hx
        refine ⟨c, Rt.kept (thawK G w) t x c hc, fun q u hq => ?_⟩
        have := hu q u hq
        rw [Nat.zero_add] at this ⊢
        refine ⟨.inr (by rcases ho with h | h; exact ⟨_, h⟩; exact ⟨_, h⟩), ?_⟩
        rw [cell_at hh, Array.getElem?_toList]
        exact this
  | eel t k x i j => exact hcell
  | lst e t xs own =>
    obtain ⟨A, cap, e, h1, h2, h3, _⟩ := h
    exact ⟨A, cap, e, h1, h2, h3.kept (thawK G w), .inl rfl⟩
  | ptr k o => exact hcell
  | fn f m caps => exact hcell
  | ro t x =>
    obtain ⟨b, o, cs, e, h1, h2⟩ := h
    exact ⟨b, o, cs, e, Rt.kept (thawK G w) t x cs h1, h2.kept (thawK G w)⟩
  | ifc T t x =>
    obtain ⟨u, e, hu, ha⟩ := h
    exact ⟨u, e, Rt.kept (thawK G w) t x _ hu, ha⟩
  | pin v0 t x => exact ⟨h.1, Rt.kept (thawK G w) t x _ h.2⟩
  | _ => exact h
theorem V.thaw_sound {x : V} {v : Value} (h : Rv G w x v) : Rv (thawGh G) w x.thaw v := by
  cases x with
  | one c => exact C.thaw_sound h
  | agg cs =>
    obtain ⟨vs, e, hv⟩ := h
    exact ⟨vs, e, hv.map_left _ fun a b h => C.thaw_sound h⟩
  | tup ps => trivial
  | any => trivial

/-! ### what is handed out -/
variable {G' : Gh}
def OwnsTo (G' H : Gh) (l : List Nat) : Prop := ∀ j ∈ l, j ≠ 0 ∧ ∀ b n, G'.ow j = some (b, n) → H.ow j = some (b, 0)
theorem OwnsTo.l {H : Gh} {l l' : List Nat} (h : OwnsTo G' H (l ++ l')) : OwnsTo G' H l := fun j hj => h j (List.mem_append_left _ hj)
theorem OwnsTo.r {H : Gh} {l l' : List Nat} (h : OwnsTo G' H (l ++ l')) : OwnsTo G' H l' := fun j hj => h j (List.mem_append_right _ hj)
theorem hardC_sound {H : Gh} {c c' : C} {v : Value} (hc : hardC c = some c') (ho : OwnsTo G' H (ownsC c)) (h : Rc G' w' c v) : Rc H w' c' v := by
  cases c <;> simp only [hardC] at hc <;> try cases hc
  case int => exact h
  case bool => exact h
  case str => exact h
  case lst e t xs own =>
    cases hz : !(own == 0) && t.flatB with
    | false => rw [hz] at hc; cases hc
    | true =>
      rw [hz] at hc
      simp only [cond_true, Option.some.injEq] at hc
      subst hc
      simp only [Bool.and_eq_true, Bool.not_eq_true', beq_eq_false_iff_ne] at hz
      obtain ⟨hi, hown⟩ := ho own (by simp [ownsC])
      obtain ⟨A, cap, rfl, h1, h2, hrow, hO⟩ := h
      rcases hO with hO | ⟨rfl, rfl⟩ | ⟨b, cur, el, rfl, how, hh, hcs⟩
      · exact absurd hO hz.1
      · have : xs = [] := List.eq_nil_of_length_eq_zero (by omega)
        subst this
        exact .inl ⟨rfl, rfl, rfl⟩
      · refine .inr ⟨b, cap, by rw [Nat.zero_add], ⟨hi, hi, .inl (hown b _ how)⟩, cur, el, hh, hcs, by rw [Nat.zero_add]; exact h1, h2, fun k x hx => ?_⟩
        obtain ⟨b', o', c, e', hc, ha⟩ := hrow.cellAt hx
        cases e'
        refine ⟨c, Rt.flat t x c hz.2 hc, fun q u hq => ?_⟩
        have := (ha q u hq).2
        rw [cell_at hh, Array.getElem?_toList] at this
        rw [Nat.zero_add] at this ⊢
        exact this
theorem hardCs_sound {H : Gh} : ∀ {cs cs' : List C} {vs : List Value}, hardCs cs = some cs' → OwnsTo G' H (cs.flatMap ownsC) → All2 (Rc G' w') cs vs → All2 (Rc H w') cs' vs
  | [], cs', vs, h, _, hv => by simp only [hardCs, Option.some.injEq] at h; subst h; cases vs <;> exact hv
  | c :: cs, cs', [], h, _, hv => hv.elim
  | c :: cs, cs', v :: vs, h, ho, hv => by
    simp only [hardCs] at h
    split at h
    · rename_i c' cs'' h1 h2
      cases h
      rw [List.flatMap_cons] at ho
      exact ⟨hardC_sound h1 ho.l hv.1, hardCs_sound h2 ho.r hv.2⟩
    · cases h
theorem hardCs_one {c : C} {cs' : List C} (h : hardCs [c] = some cs') : ∃ c', hardC c = some c' ∧ cs' = [c'] := by
  simp only [hardCs] at h
  cases hc : hardC c with
  | none => rw [hc] at h; cases h
  | some c' => rw [hc] at h; cases h; exact ⟨c', rfl, rfl⟩
theorem hardPs_sound {H : Gh} : ∀ {ps ps' : List (Bool × List C)} {us : List Value}, hardPs ps = some ps' → OwnsTo G' H (ps.flatMap fun p => p.2.flatMap ownsC) → All2 (RcOne G' w') ps us → All2 (RcOne H w') ps' us
  | [], ps', us, h, _, hv => by simp only [hardPs, Option.some.injEq] at h; subst h; cases us <;> exact hv
  | p :: ps, ps', [], h, _, hv => hv.elim
  | (b, cs0) :: ps, ps', u :: us, h, ho, hv => by
    simp only [hardPs] at h
    split at h
    · rename_i cs ps'' h1 h2
      cases h
      rw [List.flatMap_cons] at ho
      refine ⟨?_, hardPs_sound h2 ho.r hv.2⟩
      have o1 := ho.l
      rcases hv.1 with ⟨e1, vs, e2, h3⟩ | ⟨e1, c, e2, h3⟩
      · exact .inl ⟨e1, vs, e2, hardCs_sound h1 o1 h3⟩
      · simp only at e2
        subst e2
        obtain ⟨c', hc', rfl⟩ := hardCs_one h1
        exact .inr ⟨e1, c', rfl, hardC_sound hc' (by simpa using o1) h3⟩
    · cases h
theorem hardV_sound {H : Gh} {x x' : V} {v : Value} (hx : hardV x = some x') (ho : OwnsTo G' H (ownsV x)) (h : Rv G' w' x v) : Rv H w' x' v := by
  cases x with
  | one c =>
    obtain ⟨c', hc, rfl⟩ := Option.map_eq_some_iff.1 hx
    exact hardC_sound hc ho h
  | agg cs =>
    obtain ⟨cs', hc, rfl⟩ := Option.map_eq_some_iff.1 hx
    obtain ⟨vs, e, hv⟩ := h
    exact ⟨vs, e, hardCs_sound hc ho hv⟩
  | tup ps =>
    obtain ⟨ps', hc, rfl⟩ := Option.map_eq_some_iff.1 hx
    obtain ⟨us, e, hv⟩ := h
    exact ⟨us, e, hardPs_sound hc ho hv⟩
  | any => cases hx
theorem allI_mem {i : Nat} : ∀ {l : List Nat}, allI i l = true → ∀ j ∈ l, j = i
  | [], _, j, hj => by cases hj
  | m :: l, h, j, hj => by
    simp only [allI, Bool.and_eq_true] at h
    rcases List.mem_cons.1 hj with rfl | hj
    · exact Nat.eq_of_beq_eq_true h.1
    · exact allI_mem h.2 j hj
end

theorem pure_sound {P : Program} {f : Nat} {h : Hc} (hok : HcOk P f h) : HcOk P f (pureHd h) := by
  intro R args id A K r F G ts cst w vals hid hrun Rl hv
  have hthaw : ∀ {vs : List V} {us : List Value}, All2 (Rv G w) vs us → All2 (Rv (thawGh G) w) (vs.map V.thaw) us := fun hh => hh.map_left _ fun a b h => V.thaw_sound h
  obtain ⟨hfn, hcalls⟩ := hok R (args.map V.thaw) id ⟨[], [], []⟩ _ r (thawFra G w) (thawGh G) #[] [] w vals (fun _ => rfl) hrun (thaw_rel Rl.gh) (hthaw hv)
  refine ⟨hfn, hcalls.mono ?_⟩
  rintro e w' ⟨G', A', v, u, R', hu, ⟨he, ks, _, hk⟩ | ⟨_, hk⟩⟩
  · have hg : Grown w w' := ⟨R'.gh.fr.os, R'.gh.fr.tape, R'.gh.fr.output, R'.gh.fr.size, fun k hk => R'.gh.fr.block k hk (fun h => h)⟩
    have hfresh : ∀ i b l, G'.ow i = some (b, l) → w.heap.size ≤ b ∧ b < w'.heap.size := fun i b l hi => by
      obtain ⟨_, h2, h3, _⟩ := R'.gh.ow i b l hi
      exact ⟨by rcases h2 with h | h; exact h; exact h.elim, h3⟩
    simp only [V.force_eq, AS.force_eq] at hk
    split at hk
    · rename_i v' hv' ho
      have R2 := Rl.grown0 hg
      exact ⟨G, A, v', u, R2, hardV_sound hv' (fun j hj => by rw [ho] at hj; cases hj) hu, .inl ⟨he, some [], ⟨(Goes.grown0 Rl.gh hg).kept, fun key b _ hb => ⟨hb, hg.old b (Rl.gh.mu key b hb).2.2⟩⟩, hk⟩⟩
    · rename_i v' i is hv' ho
      cases hz : !(i == 0) && allI i is with
      | false => rw [hz] at hk; cases hk
      | true =>
        rw [hz] at hk
        simp only [cond_true] at hk
        simp only [Bool.and_eq_true, Bool.not_eq_true', beq_eq_false_iff_ne] at hz
        have hall : allI i (ownsV v) = true := by rw [ho]; simp [allI, hz.2]
        have hob : ∀ b, (G'.ow i).map (·.1) = some b → w.heap.size ≤ b ∧ b < w'.heap.size := fun b hb => by
          obtain ⟨p, hp, rfl⟩ := Option.map_eq_some_iff.1 hb
          exact hfresh i p.1 p.2 hp
        refine ⟨_, _, v', u, Rl.grown hg i ((G'.ow i).map (·.1)) hob, hardV_sound hv' (fun j hj => by
          have := allI_mem hall j hj
          subst this
          exact ⟨hz.1, fun b n hb => by simp [Gh.owned, hb]⟩) hu, .inl ⟨he, some [], ⟨(Goes.grown Rl.gh hg i _).kept, fun key b _ hb => ⟨hb, hg.old b (Rl.gh.mu key b hb).2.2⟩⟩, hk⟩⟩
    · cases hk
  · cases hk
end
end Go.Proofs.YtmlgepgcofmpeaaGreat.Sym
