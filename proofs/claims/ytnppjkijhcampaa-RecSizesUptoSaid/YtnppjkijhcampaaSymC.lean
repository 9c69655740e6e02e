/- Soundness of the operations that only compute: what the evaluator says they give is what the model's operation gives. -/
import Derived.Test.YtnppjkijhcampaaSymB
import Derived.WalkKit
import Derived.WideLaws

namespace Go.Proofs.Ytnppjkijhcampaa.Sym
open Go

def dsOf : TypeDesc → Ds
  | .bool => .bool
  | .int k => .int k
  | .string => .str
  | .slice e => .sl e
  | .struct fs => .st (fs.toList.map fun f => (f.offset, f.type))
  | .pointer e => .pt e
  | .func _ _ _ => .fn
  | .interface _ => .ifc
  | _ => .oth

def vAgg : Value → Bool
  | .agg _ => true
  | _ => false

structure TIok (P : Program) (t : Nat) (ti : TI) : Prop where
  und : ∃ d, P.underlying t = some d ∧ dsOf d = ti.d
  inf : ∃ i z, P.info? t = some i ∧ i.size = ti.size ∧ i.bytes = ti.bytes ∧ i.zero = some z ∧ z.cells.toList = ti.zero ∧ vAgg z = isSt ti.d
def TTok (P : Program) (tt : TT) : Prop := ∀ t, (tt.at t).d ≠ .oth → TIok P t (tt.at t)

theorem Addr.add_plain (b o n : Nat) : (⟨b, o, none⟩ : Addr).add n = ⟨b, o + n, none⟩ := by
  unfold Addr.add
  split
  · rename_i h; subst h; rfl
  · rfl

/-! ## cells and data -/
section
variable {G : Gh} {w : World}

theorem castC_sound : ∀ (t : Ty) (c : C) (x : t.den) (v : Value), castC t c = some x → Rc G w c v → Rt G.S w t x [v] := by
  intro t c x v h hr
  cases t with
  | int k =>
    cases c <;> simp only [castC] at h <;> try cases h
    rename_i k' n
    split at h
    · rename_i e; cases e; cases h; exact ⟨by rw [hr.1], hr.2⟩
    · cases h
  | bool =>
    cases c <;> simp only [castC] at h <;> try cases h
    simp only [Rt]; rw [hr]
  | str =>
    cases c <;> simp only [castC] at h <;> try cases h
    exact ⟨by rw [hr.1], hr.2⟩
  | sl e t =>
    cases c <;> simp only [castC] at h <;> try cases h
    · rename_i e' t' xs own
      split at h
      · rename_i he; obtain ⟨rfl, rfl⟩ := he; cases h
        obtain ⟨A, cap, ev, h1, h2, h3, _⟩ := hr
        exact ⟨A, cap, by rw [ev], h1, h2, h3⟩
      · cases h
    · exact ⟨none, 0, by rw [hr]; rfl, by simp, by simp [maxLen], fun h => absurd rfl h⟩
  | unit => cases c <;> simp [castC] at h
  | prod a b => cases c <;> simp [castC] at h

theorem castCs_sound : ∀ (t : Ty) (cs : List C) (x : t.den) (r : List C) (vs : List Value), castCs t cs = some (x, r) → All2 (Rc G w) cs vs →
    ∃ v1 v2, vs = v1 ++ v2 ∧ Rt G.S w t x v1 ∧ All2 (Rc G w) r v2 := by
  intro t
  induction t with
  | unit => intro cs x r vs h hr; simp only [castCs, Option.some.injEq, Prod.mk.injEq] at h; obtain ⟨_, rfl⟩ := h; exact ⟨[], vs, rfl, rfl, hr⟩
  | prod a b iha ihb =>
    intro cs x r vs h hr
    simp only [castCs] at h
    split at h
    · rename_i xa ra ha
      split at h
      · rename_i xb rb hb
        simp only [Option.some.injEq, Prod.mk.injEq] at h
        obtain ⟨rfl, rfl⟩ := h
        obtain ⟨v1, v2, rfl, h1, h2⟩ := iha _ _ _ _ ha hr
        obtain ⟨v3, v4, rfl, h3, h4⟩ := ihb _ _ _ _ hb h2
        exact ⟨v1 ++ v3, v4, by simp, ⟨v1, v3, rfl, h1, h3⟩, h4⟩
      · cases h
    · cases h
  | int k =>
    intro cs x r vs h hr
    cases cs with
    | nil => simp [castCs] at h
    | cons c cs =>
      simp only [castCs] at h
      split at h
      · rename_i y hy
        simp only [Option.some.injEq, Prod.mk.injEq] at h
        obtain ⟨rfl, rfl⟩ := h
        cases vs with
        | nil => exact hr.elim
        | cons v vs => exact ⟨[v], vs, rfl, castC_sound _ _ _ _ hy hr.1, hr.2⟩
      · cases h
  | bool =>
    intro cs x r vs h hr
    cases cs with
    | nil => simp [castCs] at h
    | cons c cs =>
      simp only [castCs] at h
      split at h
      · rename_i y hy
        simp only [Option.some.injEq, Prod.mk.injEq] at h
        obtain ⟨rfl, rfl⟩ := h
        cases vs with
        | nil => exact hr.elim
        | cons v vs => exact ⟨[v], vs, rfl, castC_sound _ _ _ _ hy hr.1, hr.2⟩
      · cases h
  | str =>
    intro cs x r vs h hr
    cases cs with
    | nil => simp [castCs] at h
    | cons c cs =>
      simp only [castCs] at h
      split at h
      · rename_i y hy
        simp only [Option.some.injEq, Prod.mk.injEq] at h
        obtain ⟨rfl, rfl⟩ := h
        cases vs with
        | nil => exact hr.elim
        | cons v vs => exact ⟨[v], vs, rfl, castC_sound _ _ _ _ hy hr.1, hr.2⟩
      · cases h
  | sl e t _ =>
    intro cs x r vs h hr
    cases cs with
    | nil => simp [castCs] at h
    | cons c cs =>
      simp only [castCs] at h
      split at h
      · rename_i y hy
        simp only [Option.some.injEq, Prod.mk.injEq] at h
        obtain ⟨rfl, rfl⟩ := h
        cases vs with
        | nil => exact hr.elim
        | cons v vs => exact ⟨[v], vs, rfl, castC_sound _ _ _ _ hy hr.1, hr.2⟩
      · cases h

theorem toCs_sound : ∀ (t : Ty) (x : t.den) (vs : List Value), Rt G.S w t x vs → All2 (Rc G w) (toCs t x) vs
  | .int _, _, _, h => by rw [h.1]; exact ⟨⟨rfl, h.2⟩, trivial⟩
  | .bool, _, _, h => by rw [h]; exact ⟨rfl, trivial⟩
  | .str, _, _, h => by rw [h.1]; exact ⟨⟨rfl, h.2⟩, trivial⟩
  | .sl _ _, _, _, h => by
    obtain ⟨A, cap, e, h1, h2, h3⟩ := h
    rw [e]
    exact ⟨⟨A, cap, rfl, h1, h2, h3, .inl rfl⟩, trivial⟩
  | .unit, _, _, h => by rw [h]; trivial
  | .prod a b, _, _, ⟨c1, c2, e, h1, h2⟩ => by rw [e]; exact (toCs_sound a _ _ h1).append (toCs_sound b _ _ h2)

theorem cells_one {c : C} {u : Value} (h : Rc G w c u) : u.cells = #[u] := by
  have hc := Rc.cell h
  cases u <;> first | rfl | cases hc
theorem castV_sound {t : Ty} {v : V} {x : t.den} {u : Value} (h : castV t v = some x) (hr : Rv G w v u) : Rt G.S w t x u.cells.toList := by
  cases v with
  | one c =>
    simp only [castV] at h
    rw [cells_one hr]
    split at h
    · rename_i y hy
      cases h
      obtain ⟨v1, v2, e, h1, h2⟩ := castCs_sound (G := G) (w := w) t [c] x [] [u] hy ⟨hr, trivial⟩
      cases v2 with
      | nil => simp only [List.append_nil] at e; rw [← e] at h1; exact h1
      | cons _ _ => exact h2.elim
    · cases h
  | agg cs =>
    simp only [castV] at h
    obtain ⟨vs, rfl, hv⟩ := hr
    split at h
    · rename_i y hy
      cases h
      obtain ⟨v1, v2, e, h1, h2⟩ := castCs_sound (G := G) (w := w) t cs x [] vs.toList hy hv
      cases v2 with
      | nil => simp only [List.append_nil] at e; rw [← e] at h1; exact h1
      | cons _ _ => exact h2.elim
    · cases h
  | tup ps => simp [castV] at h
  | any => simp [castV] at h

/-! ## constants -/
theorem cOfVal_sound (v : Value) (hv : v.oneCell' = true) : Rc G w (cOfVal v) v := by
  unfold cOfVal
  split
  · rename_i k n
    cases h : okInt k n
    · exact hv
    · simp only [okInt, Bool.and_eq_true, decide_eq_true_eq] at h; exact ⟨rfl, h⟩
  · rfl
  · rename_i s
    cases h : decide (s.size ≤ maxLen)
    · exact hv
    · have h' : s.size ≤ maxLen := of_decide_eq_true h
      have e : (unStr s).length = s.size := by rw [unStr, List.length_map, Array.length_toList]; rfl
      exact ⟨by rw [mkStr_unStr], unStr_byteR s, by rw [e]; exact h'⟩
  · rfl
  · rfl
  · rfl
  · rfl
  · exact hv
theorem cOfVals_sound : ∀ (vs : List Value), vs.all Value.oneCell' = true → All2 (Rc G w) (vs.map cOfVal) vs
  | [], _ => trivial
  | v :: vs, h => by
    simp only [List.all_cons, Bool.and_eq_true] at h
    exact ⟨cOfVal_sound v h.1, cOfVals_sound vs h.2⟩
theorem vOfVal_sound (v : Value) : Rv G w (vOfVal v) v := by
  unfold vOfVal
  split
  · rename_i cs
    cases h : cs.toList.all Value.oneCell'
    · trivial
    · exact ⟨cs, rfl, cOfVals_sound _ h⟩
  · rename_i vs
    split
    · rename_i e; exact ⟨vs, rfl, by rw [e]; trivial⟩
    · trivial
  · rename_i h1 h2
    refine cOfVal_sound _ ?_
    cases v <;> first | rfl | exact absurd rfl (h1 _) | exact absurd rfl (h2 _)

theorem retypeC_sound (id : Nat) (t : Option Ty) {c : C} {v : Value} (h : Rc G w c v) : Rc G w (retypeC id t c) v := by
  unfold retypeC
  split
  · exact ⟨none, 0, h, by simp, by simp [maxLen], fun h => absurd rfl h, .inr (.inl ⟨rfl, rfl⟩)⟩
  · exact h
theorem retypeCs_sound : ∀ (id : Nat) (ts : List Ty) (cs : List C) (vs : List Value), All2 (Rc G w) cs vs → All2 (Rc G w) (retypeCs id ts cs) vs
  | _, [], _, _, h => by simpa [retypeCs] using h
  | _, _ :: _, [], _, h => by simpa [retypeCs] using h
  | _, _ :: _, _ :: _, [], h => h.elim
  | id, t :: ts, _ :: cs, _ :: vs, h => ⟨retypeC_sound id _ h.1, retypeCs_sound (id + 2) ts cs vs h.2⟩
theorem retype_sound (tt : TT) (id t : Nat) {v : V} {u : Value} (h : Rv G w v u) : Rv G w (retype tt id t v) u := by
  cases v with
  | one c => exact retypeC_sound _ _ h
  | agg cs => exact h
  | tup ps => exact h
  | any => trivial
end

end Go.Proofs.Ytnppjkijhcampaa.Sym
