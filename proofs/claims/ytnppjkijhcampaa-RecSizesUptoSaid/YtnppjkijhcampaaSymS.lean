/- A program's types as a table; contracts as a table; summaries of loops. -/
import Derived.Test.YtnppjkijhcampaaSymR

namespace Go.Proofs.Ytnppjkijhcampaa.Sym
open Go
set_option linter.unusedSimpArgs false
set_option linter.unusedVariables false

/-! ### types -/
def tyFs (f : Nat → Option Ty) : List Field → Option Ty
  | [] => some .unit
  | x :: xs => match f x.type with
    | some a => match tyFs f xs with
      | some b => some (.prod a b)
      | none => none
    | none => none
def tyOf (P : Program) : Nat → Nat → Option Ty
  | 0, _ => none
  | n + 1, t => match P.underlying t with
    | some .bool => some .bool
    | some (.int k) => some (.int k)
    | some .string => some .str
    | some (.slice e) => match tyOf P n e with
      | some t => some (.sl e t)
      | none => none
    | some (.struct fs) => tyFs (tyOf P n) fs.toList
    | _ => none
def tiOf (P : Program) (t : Nat) : TI := match P.info? t with
  | some i => match P.underlying t with
    | some d => match i.zero with
      | some z => bif vAgg z == isSt (dsOf d) then ⟨dsOf d, tyOf P 8 t, i.size, i.bytes, z.cells.toList⟩ else .none
      | none => .none
    | none => .none
  | none => .none
def ttOf (P : Program) (n : Nat) : TT := (List.range n).map (tiOf P)
theorem ttOf_ok (P : Program) (n : Nat) : TTok P (ttOf P n) := by
  intro t ht
  have e : (ttOf P n).at t = if t < n then tiOf P t else .none := by
    unfold ttOf TT.at
    rw [List.getD_eq_getElem?_getD, List.getElem?_map]
    by_cases h : t < n
    · rw [List.getElem?_range h, if_pos h]; rfl
    · rw [List.getElem?_eq_none (by simp; omega), if_neg h]; rfl
  rw [e] at ht ⊢
  by_cases h : t < n
  · rw [if_pos h] at ht ⊢
    unfold tiOf at ht ⊢
    split
    · rename_i i hi
      rw [hi] at ht
      simp only at ht
      split
      · rename_i d hd
        rw [hd] at ht
        simp only at ht
        split
        · rename_i z hz
          rw [hz] at ht
          simp only at ht
          cases hb : vAgg z == isSt (dsOf d) with
          | false => rw [hb] at ht; exact absurd rfl ht
          | true => exact ⟨⟨d, hd, rfl⟩, i, z, hi, rfl, rfl, hz, rfl, by simpa using hb⟩
        · rename_i hz; rw [hz] at ht; exact absurd rfl ht
      · rename_i hd; rw [hd] at ht; exact absurd rfl ht
    · rename_i hi; rw [hi] at ht; exact absurd rfl ht
  · rw [if_neg h] at ht; exact absurd rfl ht

/-! ### contracts -/
abbrev Hc := (R : Type) → List V → Nat → AS → (Oc → AS → Option R) → Option R
def hcAt : List (Nat × Hc) → Nat → Option Hc
  | [], _ => none
  | (g, h) :: l, f => bif Nat.beq g f then some h else hcAt l f
def hdT (l : List (Nat × Hc)) : Hd := fun R f args id A K => match hcAt l f with
  | some h => h R args id A K
  | none => none
def HcsOk (P : Program) : List (Nat × Hc) → Prop
  | [] => True
  | p :: l => HcOk P p.1 p.2 ∧ HcsOk P l
theorem HcsOk.nil {P : Program} : HcsOk P [] := trivial
theorem HcsOk.cons {P : Program} {f : Nat} {h : Hc} {l : List (Nat × Hc)} (a : HcOk P f h) (b : HcsOk P l) : HcsOk P ((f, h) :: l) := ⟨a, b⟩
theorem hcAt_ok {P : Program} : ∀ {l : List (Nat × Hc)} {f : Nat} {h : Hc}, HcsOk P l → hcAt l f = some h → HcOk P f h
  | [], _, _, _, e => by cases e
  | (g, h') :: l, f, h, hl, e => by
    simp only [hcAt] at e
    cases hb : Nat.beq g f with
    | true =>
      rw [hb] at e
      simp only [cond_true, Option.some.injEq] at e
      subst e
      have := Nat.eq_of_beq_eq_true hb
      subst this
      exact hl.1
    | false =>
      rw [hb] at e
      exact hcAt_ok hl.2 e
theorem hdT_ok {P : Program} {l : List (Nat × Hc)} (hl : HcsOk P l) : HdOk P (hdT l) := by
  intro R f args id A K r F G ts cst w vals hid h Rl hv
  unfold hdT at h
  split at h
  · rename_i hc e
    exact hcAt_ok hl e R args id A K r F G ts cst w vals hid h Rl hv
  · cases h

/-! ### summaries of loops -/
/-- A cell of a state at a loop's head: a hole, an owned list, or what it always is. -/
inductive SC where
  | hol (t : Ty)
  | onl (e : Nat) (t : Ty) (own : Nat)
  | ptr (key off : Nat)
  | nils | nilp | top | itr
@[reducible] def SC.den : SC → Type
  | .hol t => t.den
  | .onl _ t _ => List t.den
  | .itr => List Int × Int
  | _ => Unit
@[reducible] def SCs.den : List SC → Type
  | [] => Unit
  | .hol t :: ss => t.den × SCs.den ss
  | .onl _ t _ :: ss => List t.den × SCs.den ss
  | .ptr _ _ :: ss => SCs.den ss
  | .nils :: ss => SCs.den ss
  | .nilp :: ss => SCs.den ss
  | .top :: ss => SCs.den ss
  | .itr :: ss => (List Int × Int) × SCs.den ss
def SC.dec : (s : SC) → C → Option s.den
  | .hol t, c => castC t c
  | .onl e t own, .lst e' t' xs own' => if h : e = e' ∧ t' = t ∧ own = own' then some (h.2.1 ▸ xs) else none
  | .ptr k o, .ptr k' o' => bif Nat.beq k k' && Nat.beq o o' then some () else none
  | .nils, .nils => some ()
  | .nilp, .nilp => some ()
  | .top, _ => some ()
  | _, _ => none
def SC.mk : (s : SC) → s.den → C
  | .hol (.int k), x => .int k x
  | .hol .bool, x => .bool x
  | .hol .str, x => .str x
  | .hol (.sl e t), x => .lst e t x 0
  | .hol _, _ => .top
  | .onl e t own, x => .lst e t x own
  | .ptr k o, _ => .ptr k o
  | .nils, _ => .nils
  | .nilp, _ => .nilp
  | .top, _ => .top
  | .itr, x => .itr x
def SCs.dec : (ss : List SC) → List C → Option (SCs.den ss)
  | [], [] => some ()
  | .hol t :: ss, c :: cs => match SC.dec (.hol t) c with | some x => (match SCs.dec ss cs with | some xs => some (x, xs) | none => none) | none => none
  | .onl e t own :: ss, c :: cs => match SC.dec (.onl e t own) c with | some x => (match SCs.dec ss cs with | some xs => some (x, xs) | none => none) | none => none
  | .ptr k o :: ss, c :: cs => match SC.dec (.ptr k o) c with | some _ => SCs.dec ss cs | none => none
  | .nils :: ss, c :: cs => match SC.dec .nils c with | some _ => SCs.dec ss cs | none => none
  | .nilp :: ss, c :: cs => match SC.dec .nilp c with | some _ => SCs.dec ss cs | none => none
  | .top :: ss, _ :: cs => SCs.dec ss cs
  | _, _ => none
def SCs.mk : (ss : List SC) → SCs.den ss → List C
  | [], _ => []
  | .hol t :: ss, x => SC.mk (.hol t) x.1 :: SCs.mk ss x.2
  | .onl e t own :: ss, x => SC.mk (.onl e t own) x.1 :: SCs.mk ss x.2
  | .ptr k o :: ss, x => .ptr k o :: SCs.mk ss x
  | .nils :: ss, x => .nils :: SCs.mk ss x
  | .nilp :: ss, x => .nilp :: SCs.mk ss x
  | .top :: ss, x => .top :: SCs.mk ss x
  | .itr :: ss, x => .itr x.1 :: SCs.mk ss x.2
def SC.wf : (s : SC) → s.den → Prop
  | .hol t, x => t.wf x
  | .onl _ t _, xs => xs.length ≤ maxLen ∧ ∀ x ∈ xs, t.wf x
  | _, _ => True
def SCs.wf : (ss : List SC) → SCs.den ss → Prop
  | [], _ => True
  | .hol t :: ss, x => t.wf x.1 ∧ SCs.wf ss x.2
  | .onl _ t _ :: ss, x => (x.1.length ≤ maxLen ∧ ∀ y ∈ x.1, t.wf y) ∧ SCs.wf ss x.2
  | .ptr _ _ :: ss, x => SCs.wf ss x
  | .nils :: ss, x => SCs.wf ss x
  | .nilp :: ss, x => SCs.wf ss x
  | .top :: ss, x => SCs.wf ss x
  | .itr :: ss, x => (byteR x.1.1 ∧ x.1.1.length ≤ maxLen ∧ 0 ≤ x.1.2) ∧ SCs.wf ss x.2

section
variable {G : Gh} {w : World}

theorem castC_one {t : Ty} {c : C} {x : t.den} {v : Value} (h : castC t c = some x) (hv : Rc G w c v) : Rc G w (SC.mk (.hol t) x) v := by
  have hcell := hv.cell
  have hr := castC_sound (G := G) (w := w) t c x v h hv
  have hs := toCs_sound (G := G) (w := w) t x [v] hr
  cases t <;> first | exact hs.1 | exact hcell
theorem SC.dec_sound : ∀ {s : SC} {c : C} {x : s.den} {v : Value}, s.dec c = some x → Rc G w c v → Rc G w (s.mk x) v ∧ s.wf x := by
  intro s c x v h hv
  cases s with
  | hol t => exact ⟨castC_one h hv, Rt.wf (w := w) t x [v] (castC_sound t c x v h hv)⟩
  | onl e t own =>
    cases c <;> simp only [SC.dec] at h <;> try cases h
    rename_i e' t' xs own'
    split at h
    · rename_i hh
      obtain ⟨rfl, rfl, rfl⟩ := hh
      cases h
      refine ⟨hv, ?_⟩
      obtain ⟨A, cap, _, h1, h2, hrow, _⟩ := hv
      refine ⟨Nat.le_trans h1 h2, fun y hy => ?_⟩
      obtain ⟨i, hi⟩ := List.getElem?_of_mem hy
      obtain ⟨b, o, c, _, hc, _⟩ := hrow.cellAt hi
      exact Rt.wf _ y c hc
    · cases h
  | ptr k o =>
    cases c <;> simp only [SC.dec] at h <;> try cases h
    rename_i k' o'
    cases hb : Nat.beq k k' && Nat.beq o o' with
    | false => rw [hb] at h; cases h
    | true =>
      simp only [Bool.and_eq_true] at hb
      have e1 := Nat.eq_of_beq_eq_true hb.1
      have e2 := Nat.eq_of_beq_eq_true hb.2
      subst e1; subst e2
      exact ⟨hv, trivial⟩
  | nils => cases c <;> simp only [SC.dec] at h <;> first | exact ⟨hv, trivial⟩ | cases h
  | nilp => cases c <;> simp only [SC.dec] at h <;> first | exact ⟨hv, trivial⟩ | cases h
  | top => exact ⟨hv.cell, trivial⟩
  | itr => cases c <;> simp [SC.dec] at h
theorem SCs.dec_sound : ∀ {ss : List SC} {cs : List C} {x : SCs.den ss} {vs : List Value}, SCs.dec ss cs = some x → All2 (Rc G w) cs vs → All2 (Rc G w) (SCs.mk ss x) vs ∧ SCs.wf ss x
  | [], [], _, vs, _, hv => ⟨hv, trivial⟩
  | [], _ :: _, _, _, h, _ => by simp [SCs.dec] at h
  | s :: ss, [], _, _, h, _ => by cases s <;> simp [SCs.dec] at h
  | s :: ss, c :: cs, x, [], h, hv => hv.elim
  | s :: ss, c :: cs, x, v :: vs, h, hv => by
    cases s <;> simp only [SCs.dec] at h
    case hol t =>
      split at h
      · rename_i y hy
        split at h
        · rename_i ys hys
          cases h
          obtain ⟨h1, h2⟩ := SC.dec_sound hy hv.1
          obtain ⟨h3, h4⟩ := SCs.dec_sound hys hv.2
          exact ⟨⟨h1, h3⟩, h2, h4⟩
        · cases h
      · cases h
    case onl e t own =>
      split at h
      · rename_i y hy
        split at h
        · rename_i ys hys
          cases h
          obtain ⟨h1, h2⟩ := SC.dec_sound hy hv.1
          obtain ⟨h3, h4⟩ := SCs.dec_sound hys hv.2
          exact ⟨⟨h1, h3⟩, h2, h4⟩
        · cases h
      · cases h
    case top =>
      obtain ⟨h3, h4⟩ := SCs.dec_sound h hv.2
      exact ⟨⟨hv.1.cell, h3⟩, h4⟩
    case itr => cases h
    all_goals
      split at h
      · rename_i y hy
        obtain ⟨h1, _⟩ := SC.dec_sound hy hv.1
        obtain ⟨h3, h4⟩ := SCs.dec_sound h hv.2
        exact ⟨⟨h1, h3⟩, h4⟩
      · cases h
end

/-- A temporary. -/
inductive SV where
  | one (s : SC) | agg (ss : List SC) | any
def SV.cs : SV → List SC
  | .one s => [s]
  | .agg ss => ss
  | .any => []
@[reducible] def DenT : List SV → Type
  | [] => Unit
  | .any :: vs => DenT vs
  | .one (.ptr _ _) :: vs => DenT vs
  | .one .nils :: vs => DenT vs
  | .one .nilp :: vs => DenT vs
  | .one .top :: vs => DenT vs
  | .one .itr :: vs => DenT vs
  | .one (.hol t) :: vs => t.den × DenT vs
  | .one (.onl _ t _) :: vs => List t.den × DenT vs
  | .agg ss :: vs => SCs.den ss × DenT vs
def decT : (vs : List SV) → List V → Option (DenT vs)
  | [], [] => some ()
  | .any :: vs, _ :: us => decT vs us
  | .one (.ptr k o) :: vs, .one c :: us => match SC.dec (.ptr k o) c with | some _ => decT vs us | none => none
  | .one .nils :: vs, .one c :: us => match SC.dec .nils c with | some _ => decT vs us | none => none
  | .one .nilp :: vs, .one c :: us => match SC.dec .nilp c with | some _ => decT vs us | none => none
  | .one .top :: vs, .one _ :: us => decT vs us
  | .one (.hol t) :: vs, .one c :: us => match SC.dec (.hol t) c with | some x => (match decT vs us with | some xs => some (x, xs) | none => none) | none => none
  | .one (.onl e t own) :: vs, .one c :: us => match SC.dec (.onl e t own) c with | some x => (match decT vs us with | some xs => some (x, xs) | none => none) | none => none
  | .agg ss :: vs, .agg cs :: us => match SCs.dec ss cs with | some x => (match decT vs us with | some xs => some (x, xs) | none => none) | none => none
  | _, _ => none
def mkT : (vs : List SV) → DenT vs → List V
  | [], _ => []
  | .any :: vs, x => .any :: mkT vs x
  | .one (.ptr k o) :: vs, x => .one (.ptr k o) :: mkT vs x
  | .one .nils :: vs, x => .one .nils :: mkT vs x
  | .one .nilp :: vs, x => .one .nilp :: mkT vs x
  | .one .top :: vs, x => .one .top :: mkT vs x
  | .one .itr :: vs, x => .any :: mkT vs x
  | .one (.hol t) :: vs, x => .one (SC.mk (.hol t) x.1) :: mkT vs x.2
  | .one (.onl e t own) :: vs, x => .one (SC.mk (.onl e t own) x.1) :: mkT vs x.2
  | .agg ss :: vs, x => .agg (SCs.mk ss x.1) :: mkT vs x.2
def wfT : (vs : List SV) → DenT vs → Prop
  | [], _ => True
  | .any :: vs, x => wfT vs x
  | .one (.ptr _ _) :: vs, x => wfT vs x
  | .one .nils :: vs, x => wfT vs x
  | .one .nilp :: vs, x => wfT vs x
  | .one .top :: vs, x => wfT vs x
  | .one .itr :: vs, x => wfT vs x
  | .one (.hol t) :: vs, x => t.wf x.1 ∧ wfT vs x.2
  | .one (.onl _ t _) :: vs, x => (x.1.length ≤ maxLen ∧ ∀ y ∈ x.1, t.wf y) ∧ wfT vs x.2
  | .agg ss :: vs, x => SCs.wf ss x.1 ∧ wfT vs x.2
theorem decT_sound {G : Gh} {w : World} : ∀ {vs : List SV} {us : List V} {x : DenT vs} {zs : List Value}, decT vs us = some x → All2 (Rv G w) us zs → All2 (Rv G w) (mkT vs x) zs ∧ wfT vs x
  | [], [], _, zs, _, hv => ⟨hv, trivial⟩
  | [], _ :: _, _, _, h, _ => by simp [decT] at h
  | v :: vs, [], _, _, h, _ => by
    cases v with
    | one s => cases s <;> simp [decT] at h
    | agg ss => simp [decT] at h
    | any => simp [decT] at h
  | v :: vs, u :: us, x, [], h, hv => hv.elim
  | v :: vs, u :: us, x, z :: zs, h, hv => by
    cases v with
    | any =>
      simp only [decT] at h
      obtain ⟨h3, h4⟩ := decT_sound h hv.2
      exact ⟨⟨trivial, h3⟩, h4⟩
    | agg ss =>
      cases u <;> simp only [decT] at h <;> try cases h
      rename_i cs
      split at h
      · rename_i y hy
        split at h
        · rename_i ys hys
          cases h
          obtain ⟨us', rfl, hu⟩ := hv.1
          obtain ⟨h1, h2⟩ := SCs.dec_sound hy hu
          obtain ⟨h3, h4⟩ := decT_sound hys hv.2
          exact ⟨⟨⟨us', rfl, h1⟩, h3⟩, h2, h4⟩
        · cases h
      · cases h
    | one s =>
      cases u with
      | one c =>
        cases s <;> simp only [decT] at h
        case hol t =>
          split at h
          · rename_i y hy
            split at h
            · rename_i ys hys
              cases h
              obtain ⟨h1, h2⟩ := SC.dec_sound hy hv.1
              obtain ⟨h3, h4⟩ := decT_sound hys hv.2
              exact ⟨⟨h1, h3⟩, h2, h4⟩
            · cases h
          · cases h
        case onl e t own =>
          split at h
          · rename_i y hy
            split at h
            · rename_i ys hys
              cases h
              obtain ⟨h1, h2⟩ := SC.dec_sound hy hv.1
              obtain ⟨h3, h4⟩ := decT_sound hys hv.2
              exact ⟨⟨h1, h3⟩, h2, h4⟩
            · cases h
          · cases h
        case top =>
          obtain ⟨h3, h4⟩ := decT_sound h hv.2
          exact ⟨⟨Rc.cell hv.1, h3⟩, h4⟩
        case itr => cases h
        all_goals
          split at h
          · rename_i y hy
            obtain ⟨h1, _⟩ := SC.dec_sound hy hv.1
            obtain ⟨h3, h4⟩ := decT_sound h hv.2
            exact ⟨⟨h1, h3⟩, h4⟩
          · cases h
      | _ => cases s <;> simp [decT] at h

/-- The objects. -/
@[reducible] def DenB : List (Option (List SC)) → Type
  | [] => Unit
  | none :: os => DenB os
  | some ss :: os => SCs.den ss × DenB os
/-- An iterator. -/
def decI : (ss : List SC) → List C → Option (SCs.den ss)
  | [.itr], [.itr x] => some (x, ())
  | _, _ => none
def decB : (os : List (Option (List SC))) → List (Option (List C)) → Option (DenB os)
  | [], _ => some ()
  | none :: os, _ :: bs => decB os bs
  | none :: os, [] => decB os []
  | some ss :: os, some cs :: bs => match (bif cs.any C.isItr then decI ss cs else SCs.dec ss cs) with | some x => (match decB os bs with | some xs => some (x, xs) | none => none) | none => none
  | _, _ => none
def mkB : (os : List (Option (List SC))) → DenB os → List (Option (List C))
  | [], _ => []
  | none :: os, x => none :: mkB os x
  | some ss :: os, x => some (SCs.mk ss x.1) :: mkB os x.2
def wfB : (os : List (Option (List SC))) → DenB os → Prop
  | [], _ => True
  | none :: os, x => wfB os x
  | some ss :: os, x => SCs.wf ss x.1 ∧ wfB os x.2
theorem decObj_sound {G : Gh} {w : World} {ss : List SC} {cs : List C} {y : SCs.den ss} (h : (bif cs.any C.isItr then decI ss cs else SCs.dec ss cs) = some y) (ho : ∃ o : Obj, ObjOk G w cs o) :
    SCs.wf ss y ∧ ∀ o, ObjOk G w cs o → ObjOk G w (SCs.mk ss y) o := by
  obtain ⟨o, ho⟩ := ho
  cases hn : cs.any C.isItr with
  | false =>
    rw [hn] at h
    obtain ⟨cur, el, _, hr⟩ := ho.cells hn
    refine ⟨(SCs.dec_sound h hr).2, fun o' ho' => ?_⟩
    obtain ⟨cur', el', e', hr'⟩ := ho'.cells hn
    exact .inl ⟨cur', el', e', (SCs.dec_sound h hr').1⟩
  | true =>
    rw [hn] at h
    simp only [cond_true] at h
    unfold decI at h
    split at h
    · rename_i x
      cases h
      refine ⟨?_, fun o' ho' => ho'⟩
      rcases ho with ⟨cur, el, _, hr⟩ | ⟨s, n, e2, rfl, hbr, hlen⟩
      · match hcl : cur.toList, hr with
        | [], hr => exact hr.elim
        | _ :: _, hr => exact hr.1.elim
      · simp only [List.cons.injEq, C.itr.injEq, and_true] at e2
        subst e2
        exact ⟨⟨hbr, hlen, Int.natCast_nonneg n⟩, trivial⟩
    · cases h
theorem decB_sound {G : Gh} {w : World} : ∀ {os : List (Option (List SC))} {bs : List (Option (List C))} {x : DenB os}, decB os bs = some x →
    (∀ (k : Nat) (cs : List C), bs[k]? = some (some cs) → ∃ o : Obj, ObjOk G w cs o) →
    wfB os x ∧ ∀ (k : Nat) (cs : List C), (mkB os x)[k]? = some (some cs) → ∃ cs0 : List C, bs[k]? = some (some cs0) ∧ ∀ o, ObjOk G w cs0 o → ObjOk G w cs o
  | [], _, _, _, _ => ⟨trivial, fun k cs h => by simp [mkB] at h⟩
  | none :: os, [], x, h, hb => by
    simp only [decB] at h
    obtain ⟨h1, h2⟩ := decB_sound h hb
    refine ⟨h1, fun k cs hk => ?_⟩
    cases k with
    | zero => simp [mkB] at hk
    | succ k => obtain ⟨cs0, h3, _⟩ := h2 k cs (by simpa [mkB] using hk); simp at h3
  | none :: os, b :: bs, x, h, hb => by
    simp only [decB] at h
    obtain ⟨h1, h2⟩ := decB_sound h fun k cs hk => hb (k + 1) cs (by simpa using hk)
    refine ⟨h1, fun k cs hk => ?_⟩
    cases k with
    | zero => simp [mkB] at hk
    | succ k => obtain ⟨cs0, h3, h4⟩ := h2 k cs (by simpa [mkB] using hk); exact ⟨cs0, by simpa using h3, h4⟩
  | some ss :: os, [], x, h, hb => by simp [decB] at h
  | some ss :: os, none :: bs, x, h, hb => by simp [decB] at h
  | some ss :: os, some cs :: bs, x, h, hb => by
    simp only [decB] at h
    split at h
    · rename_i y hy
      split at h
      · rename_i ys hys
        cases h
        obtain ⟨h1, h2⟩ := decB_sound hys fun k cs hk => hb (k + 1) cs (by simpa using hk)
        obtain ⟨h6, h7⟩ := decObj_sound hy (hb 0 cs rfl)
        refine ⟨⟨h6, h1⟩, fun k cs' hk => ?_⟩
        cases k with
        | zero =>
          simp only [mkB, List.getElem?_cons_zero, Option.some.injEq] at hk
          subst hk
          exact ⟨cs, rfl, h7⟩
        | succ k => obtain ⟨cs0, h3, h4⟩ := h2 k cs' (by simpa [mkB] using hk); exact ⟨cs0, by simpa using h3, h4⟩
      · cases h
    · cases h

/-- A state's shape. -/
structure Ls where
  tm : List SV
  ob : List (Option (List SC))
abbrev Ls.den (s : Ls) : Type := DenT s.tm × DenB s.ob
def Ls.mk' (s : Ls) (x : s.den) : AS := ⟨mkT s.tm x.1, [], mkB s.ob x.2⟩
def Ls.dec (s : Ls) (A : AS) : Option s.den := match A with
  | ⟨tm, [], ob⟩ => match decT s.tm tm with
    | some x => match decB s.ob ob with
      | some y => some (x, y)
      | none => none
    | none => none
  | _ => none
def Ls.wf (s : Ls) (x : s.den) : Prop := wfT s.tm x.1 ∧ wfB s.ob x.2
theorem Ls.dec_sound {s : Ls} {A : AS} {x : s.den} (h : s.dec A = some x) {F : Fra} {G : Gh} {ts : Array Value} {cst : List (Array Value)} {w : World} (R : Rel F G A ts cst w) : Rel F G (s.mk' x) ts cst w ∧ s.wf x := by
  obtain ⟨tm, stk, ob⟩ := A
  unfold Ls.dec at h
  split at h
  · rename_i tm' ob' e
    cases e
    split at h
    · rename_i y hy
      split at h
      · rename_i z hz
        cases h
        obtain ⟨h1, h2⟩ := decT_sound hy R.tm
        obtain ⟨h3, h4⟩ := decB_sound (G := G) (w := w) hz fun k cs hk => let ⟨b, o, _, _, hr⟩ := R.ob k cs hk; ⟨_, hr⟩
        refine ⟨⟨h1, R.stk, fun k cs hk => ?_, R.gh⟩, h2, h3⟩
        obtain ⟨cs0, h5, h6⟩ := h4 k cs hk
        obtain ⟨b, o, hm, hh, hr⟩ := R.ob k cs0 h5
        exact ⟨b, o, hm, hh, h6 _ hr⟩
      · cases h
    · cases h
  · cases h

/-- How a loop is left. -/
inductive Lx where
  | exit (id : Nat) | ret | normal | panic (T : Nat) (t : Ty)
@[reducible] def Lx.den : Lx → Type
  | .panic _ t => t.den
  | _ => Unit
def Lx.ex : (e : Lx) → e.den → Ex
  | .exit id, _ => .exit id
  | .ret, _ => .ret
  | .normal, _ => .normal
  | .panic T t, x => .panic (.one (.ifc T t x))
def Lx.dec : (e : Lx) → Ex → Option e.den
  | .exit id, .exit id' => bif Nat.beq id id' then some () else none
  | .ret, .ret => some ()
  | .panic T t, .panic (.one (.ifc T' t' x)) => if h : T = T' ∧ t' = t then some (h.2 ▸ x) else none
  | _, _ => none
@[reducible] def DenX : List (Lx × Ls) → Type
  | [] => Empty
  | x :: xs => Out (x.1.den × x.2.den) (DenX xs)
def decX : (xs : List (Lx × Ls)) → Ex → AS → Option (DenX xs)
  | [], _, _ => none
  | x :: xs, e, A => match x.1.dec e with
    | some p => match x.2.dec A with
      | some d => some (.ret (p, d))
      | none => match decX xs e A with
        | some y => some (.pan y)
        | none => none
    | none => match decX xs e A with
      | some y => some (.pan y)
      | none => none
def mkX {R : Type} : (xs : List (Lx × Ls)) → DenX xs → (Ex → AS → Option R) → Option R
  | [], x, _ => nomatch x
  | x :: _, .ret d, K => K (x.1.ex d.1) (x.2.mk' d.2)
  | _ :: xs, .pan y, K => mkX xs y K
structure Lo where
  st : Ls
  xs : List (Lx × Ls)
def loHd (lo : Lo) (Fn : lo.st.den → Tr (DenX lo.xs)) : Lh := fun R A K => match lo.st.dec A with
  | some x => (Fn x).run fun y => mkX lo.xs y K
  | none => none

theorem decX_sound {R : Type} {F : Fra} {G : Gh} {A : AS} {a : Act} {cst : List (Array Value)} {w : World} (Rl : Rel F G A a.tmps cst w) {K : Ex → AS → Option R} {r : R} {Q : Exit → Act → World → Prop} {dfs : List Deferred} (hd : a.defers = dfs) (hK : Post F cst dfs r K Q) :
    ∀ {xs : List (Lx × Ls)} {e : Ex} {y : DenX xs}, decX xs e A = some y → mkX xs y K = some r →
      match e with
      | .normal => Q .normal a w
      | .exit id => Q (.exit id) a w
      | .ret => Q .ret a w
      | .panic v => ∀ u, Rv G w v u → Q (.panic [{ v := u, recovered := false }]) a w
  | [], e, y, h, _ => by simp [decX] at h
  | (l, s) :: xs, e, y, h, hm => by
    simp only [decX] at h
    have rest : ∀ {y' : DenX xs}, decX xs e A = some y' → mkX xs y' K = some r → _ := fun h1 h2 => decX_sound Rl hd hK h1 h2
    split at h
    · rename_i p hp
      split at h
      · rename_i d hdd
        cases h
        simp only [mkX] at hm
        have R' := (Ls.dec_sound hdd Rl).1
        cases l with
        | normal => cases e <;> simp [Lx.dec] at hp
        | ret =>
          cases e <;> simp only [Lx.dec] at hp <;> try cases hp
          exact hK .ret _ G a w R' hd hm
        | exit id =>
          cases e <;> simp only [Lx.dec] at hp <;> try cases hp
          rename_i id'
          cases hb : Nat.beq id id' with
          | false => rw [hb] at hp; cases hp
          | true =>
            have := Nat.eq_of_beq_eq_true hb
            subst this
            exact hK (.exit id) _ G a w R' hd hm
        | panic T t =>
          cases e with
          | panic v =>
            cases v with
            | one c =>
              cases c <;> simp only [Lx.dec] at hp <;> try cases hp
              rename_i T' t' x
              split at hp
              · rename_i hh
                obtain ⟨rfl, rfl⟩ := hh
                cases hp
                exact hK (.panic _) _ G a w R' hd hm
              · cases hp
            | _ => simp [Lx.dec] at hp
          | _ => simp [Lx.dec] at hp
      · split at h
        · rename_i y' hy'
          cases h
          exact rest hy' hm
        · cases h
    · split at h
      · rename_i y' hy'
        cases h
        exact rest hy' hm
      · cases h

/-- A loop keeps to its summary, if what its body makes of the shape, looked at often enough, is what the summary says. -/
theorem lo_sound {P : Program} {tt : TT} (htt : TTok P tt) (hm : P.follows .mixedOrders = true) {hd : Hd} (hh : HdOk P hd) {okDraw : Dr} (hdr : DrawOk P tt okDraw) {lp : Lp} {kb lr : Nat} {m : Nat} {b : Code} {x : List (Nat × Nat)}
    (hlp : ∀ e ∈ loopsOf lr b m x, ∀ h, lp (firstId e.2.1) = some h → LhOk P kb e.2.1 h) (lo : Lo) (Fn : lo.st.den → Tr (DenX lo.xs))
    (hF : ∀ d y, lo.st.wf d → (Fn d).val = some y → ∃ n, loopN m kb (fun A K => ev tt hd okDraw lp kb lr b m x A K) n (lo.st.mk' d) (decX lo.xs) = some y) : LhOk P kb b (loHd lo Fn) := by
  intro R F cst r Q G A a w K hkb h Rl hK
  unfold loHd at h
  split at h
  · rename_i d hdec
    obtain ⟨y, hy, h⟩ := Tr.run_val h
    obtain ⟨R1, hwf⟩ := Ls.dec_sound hdec Rl
    obtain ⟨n, hn⟩ := hF d y hwf hy
    refine loopN_sound htt hm hh hdr hkb hlp hn R1 ?_
    intro ex A' G' a' w' R' hd' hk
    have := decX_sound R' hd' hK hk h
    cases ex <;> exact this
  · cases h

/-! ### the loops of a function -/
abbrev Le := Nat × Code × List (Nat × Nat)
def leNo : Le := (0, .skip, [])
def fnCode (fn : Func) : Code := match fn.body with
  | some c => c
  | none => .skip
def tops (fn : Func) : List Le := loopsOf (lrOf fn) (fnCode fn) (lrOf fn) []
def subs (fn : Func) (e : Le) : List Le := loopsOf (lrOf fn) e.2.1 e.1 e.2.2
def topL (fn : Func) (j : Nat) : Le := (tops fn).getD j leNo
def subL (fn : Func) (e : Le) (j : Nat) : Le := (subs fn e).getD j leNo
def lpT : List (Nat × Lh) → Lp
  | [], _ => none
  | (g, h) :: l, f => bif Nat.beq g f then some h else lpT l f
def lpN (tt : TT) (hd : Hd) (dr : Dr) (lp : Lp) (kb : Nat) (fn : Func) (e : Le) {R : Type} (n : Nat) (A : AS) (K : Ex → AS → Option R) : Option R :=
  loopN e.1 kb (fun A K => ev tt hd dr lp kb (lrOf fn) e.2.1 e.1 e.2.2 A K) n A K
def LpsOk (P : Program) (kb : Nat) (lp : Lp) (es : List Le) (i : Nat) : Prop := ∀ j, i ≤ j → j < es.length → ∀ h, lp (firstId (es.getD j leNo).2.1) = some h → LhOk P kb (es.getD j leNo).2.1 h
theorem LpsOk.done {P : Program} {kb : Nat} {lp : Lp} {es : List Le} {i : Nat} (h : Nat.ble es.length i = true) : LpsOk P kb lp es i := fun j h1 h2 => by
  have := Nat.le_of_ble_eq_true h
  omega
theorem LpsOk.step {P : Program} {kb : Nat} {lp : Lp} {es : List Le} {i : Nat} {h0 : Lh} (e : lp (firstId (es.getD i leNo).2.1) = some h0) (h : LhOk P kb (es.getD i leNo).2.1 h0) (r : LpsOk P kb lp es (i + 1)) : LpsOk P kb lp es i := fun j h1 h2 g hg => by
  by_cases hj : j = i
  · subst hj
    rw [e] at hg
    cases hg
    exact h
  · exact r j (by omega) h2 g hg
theorem LpsOk.all {P : Program} {kb : Nat} {lp : Lp} {es : List Le} (h : LpsOk P kb lp es 0) : ∀ e ∈ es, ∀ g, lp (firstId e.2.1) = some g → LhOk P kb e.2.1 g := by
  intro e he g hg
  obtain ⟨j, hj⟩ := List.getElem?_of_mem he
  have hlt := (List.getElem?_eq_some_iff.1 hj).1
  have e0 : es.getD j leNo = e := by rw [List.getD_eq_getElem?_getD, hj]; rfl
  have := h j (Nat.zero_le _) hlt g
  rw [e0] at this
  exact this hg

/-- A loop of a function keeps to its summary. -/
theorem loop_sound {P : Program} {n : Nat} (hm : P.follows .mixedOrders = true) {cs : List (Nat × Hc)} (hcs : HcsOk P cs) {lp : Lp} {kb : Nat} {fn : Func} {e : Le} (hsub : LpsOk P kb lp (subs fn e) 0) (lo : Lo) (Fn : lo.st.den → Tr (DenX lo.xs))
    (hF : ∀ d y, lo.st.wf d → (Fn d).val = some y → ∃ k, lpN (ttOf P n) (hdT cs) (orderD (ttOf P n)) lp kb fn e k (lo.st.mk' d) (decX lo.xs) = some y) : LhOk P kb e.2.1 (loHd lo Fn) :=
  lo_sound (ttOf_ok P n) hm (hdT_ok hcs) (orderD_ok (ttOf_ok P n)) hsub.all lo Fn hF
/-- A function keeps to its contract. -/
theorem fn_sound {P : Program} {n : Nat} (hm : P.follows .mixedOrders = true) {cs : List (Nat × Hc)} (hcs : HcsOk P cs) {lp : Lp} {f : Nat} {fn : Func} (hf : P.funcs[f]? = some fn) (hname : (fn.name == "runtime.NumGoroutine") = false) (hbody : fn.body.isNone = false)
    (io : Io) (hlp : LpsOk P io.obs.length lp (tops fn) 0) (Fn : io.In → Tr io.Res) (hF : ∀ d out, io.wf d → (Fn d).val = some out → io.run (ttOf P n) (hdT cs) (orderD (ttOf P n)) lp fn d = some out) : HcOk P f (ioHd io Fn) := by
  refine io_sound (ttOf_ok P n) hm (hdT_ok hcs) (orderD_ok (ttOf_ok P n)) hf hname io lp (fun c hc => ?_) Fn (fun d out => hF d out) hbody
  have : fnCode fn = c := by unfold fnCode; rw [hc]
  have h := hlp.all
  unfold tops at h
  rw [this] at h
  exact h

end Go.Proofs.Ytnppjkijhcampaa.Sym
