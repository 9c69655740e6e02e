/- Soundness of contracts, first part: data that is taken out of abstract values, and put back. -/
import Derived.Test.YtnppjkijhcampaaSymM

namespace Go.Proofs.Ytnppjkijhcampaa.Sym
open Go
set_option linter.unusedSimpArgs false
set_option linter.unusedVariables false

/-- A value stands for data of a shape; m: where the objects lie. -/
def Dv (S : Nat → Nat → Prop) (w : World) (m : Nat → Option Nat) : (s : Sh) → s.den → Value → Prop
  | .dat t agg _, x, u => Rt S w t x u.cells.toList ∧ vAgg u = agg ∧ (agg = false → u.oneCell' = true)
  | .ptr n off, _, u => ∃ b, m n = some b ∧ u = .pointer (some ⟨b, off, none⟩)
def DvL (S : Nat → Nat → Prop) (w : World) (m : Nat → Option Nat) : (ss : List Sh) → DenL ss → List Value → Prop
  | [], _, us => us = []
  | s :: ss, x, us => ∃ u us', us = u :: us' ∧ Dv S w m s x.1 u ∧ DvL S w m ss x.2 us'
def DvO (S : Nat → Nat → Prop) (w : World) (m : Nat → Option Nat) : (os : List (List Sh)) → DenO os → Nat → Prop
  | [], _, _ => True
  | o :: os, x, i => (∃ b cur el, m i = some b ∧ w.heap[b]? = some (.cells cur el (0, 0)) ∧ DvL S w m o x.1 cur.toList) ∧ DvO S w m os x.2 (i + 1)

/-- The owned ones are owned, by ids that f gives. -/
def OwOne (G : Gh) (w : World) (id : Nat) : Sh → Value → Prop
  | .dat (.sl _ t) false true, u => ∀ A n cap, u = .slice A n cap → Own G w id n A cap t.size
  | _, _ => True
def OwL (G : Gh) (w : World) (f : Nat → Nat) : List Sh → List Value → Nat → Prop
  | s :: ss, u :: us, i => OwOne G w (f i) s u ∧ OwL G w f ss us (i + 1)
  | _, _, _ => True
/-- The same, the id being the value's own. -/
def OwV (G : Gh) (w : World) : List Sh → List V → List Value → Prop
  | s :: ss, v :: vs, u :: us => (OwOne G w (ownOf v) s u ∧ ∀ t agg, s = .dat t agg true → ownOf v ≠ 0) ∧ OwV G w ss vs us
  | _, _, _ => True

theorem Bn.at_set {β : Bn} {n k j : Nat} (h : β[n]? = some none) : Bn.at (β.set n (some k)) j = if j = n then some k else β.at j := by
  unfold Bn.at
  have hn : n < β.length := (List.getElem?_eq_some_iff.1 h).1
  rw [List.getD_eq_getElem?_getD, List.getD_eq_getElem?_getD, List.getElem?_set]
  by_cases e : n = j
  · subst e; simp [hn]
  · simp [e, Ne.symm e]
/-- One binding goes on in the other. -/
def Bn.le (β β' : Bn) : Prop := ∀ n k, β.at n = some k → β'.at n = some k
theorem Bn.le.refl (β : Bn) : β.le β := fun _ _ h => h
theorem Bn.le.trans {β β' β'' : Bn} (h : β.le β') (h' : β'.le β'') : β.le β'' := fun n k hk => h' n k (h n k hk)
def Bn.inj (β : Bn) : Prop := ∀ i j k, β.at i = some k → β.at j = some k → i = j

theorem bnd_sound {β β' : Bn} {n k : Nat} (h : bnd β n k = some β') : β.le β' ∧ β'.at n = some k ∧ (β.inj → β'.inj) ∧ β'.length = β.length := by
  unfold bnd at h
  split at h
  · rename_i hn
    cases ha : β.any (· == some k) with
    | true => rw [ha] at h; cases h
    | false =>
      rw [ha] at h
      simp only [cond_false, Option.some.injEq] at h
      subst h
      have hno : ∀ j, β.at j ≠ some k := by
        intro j hj
        unfold Bn.at at hj
        rw [List.getD_eq_getElem?_getD] at hj
        cases hg : β[j]? with
        | none => rw [hg] at hj; cases hj
        | some y =>
          rw [hg] at hj
          simp only [Option.getD_some] at hj
          subst hj
          rw [List.any_eq_false] at ha
          exact ha _ (List.mem_of_getElem? hg) (by simp)
      refine ⟨fun j k' hj => ?_, by rw [Bn.at_set hn, if_pos rfl], fun hi i j k' h1 h2 => ?_, by simp⟩
      · rw [Bn.at_set hn]
        split
        · rename_i e; subst e
          unfold Bn.at at hj; rw [List.getD_eq_getElem?_getD, hn] at hj; cases hj
        · exact hj
      · rw [Bn.at_set hn] at h1 h2
        split at h1 <;> split at h2
        · rename_i e1 e2; exact e1.trans e2.symm
        · cases h1; exact absurd h2 (hno j)
        · cases h2; exact absurd h1 (hno i)
        · exact hi i j k' h1 h2
  · rename_i k' hn
    cases he : k' == k with
    | false => rw [he] at h; cases h
    | true =>
      rw [he] at h
      simp only [cond_true, Option.some.injEq] at h
      subst h
      rw [beq_iff_eq] at he
      subst he
      refine ⟨.refl _, ?_, id, rfl⟩
      unfold Bn.at; rw [List.getD_eq_getElem?_getD, hn]; rfl
  · cases h

theorem vAgg_of_one {u : Value} (h : u.oneCell' = true) : vAgg u = false := by cases u <;> first | rfl | cases h

theorem mV_sound {G : Gh} {w : World} : ∀ {s : Sh} {v : V} {β β' : Bn} {x : s.den} {u : Value}, mV s v β = some (x, β') → Rv G w v u →
    (β.le β' ∧ (β.inj → β'.inj) ∧ β'.length = β.length) ∧ (∀ βf : Bn, β'.le βf → Dv G.S w (fun n => (βf.at n).bind G.mu) s x u) ∧ OwOne G w (ownOf v) s u ∧ ∀ t agg, s = .dat t agg true → ownOf v ≠ 0 := by
  intro s v β β' x u h hr
  cases s with
  | dat t agg own =>
    simp only [mV] at h
    split at h
    · rename_i y hy
      cases hb : (v.isAgg == agg) && (!own || !(ownOf v == 0)) with
      | false => rw [hb] at h; cases h
      | true =>
        rw [hb] at h
        simp only [cond_true, Option.some.injEq, Prod.mk.injEq] at h
        obtain ⟨rfl, rfl⟩ := h
        simp only [Bool.and_eq_true, beq_iff_eq, Bool.or_eq_true, Bool.not_eq_true', beq_eq_false_iff_ne] at hb
        obtain ⟨hb1, hb2⟩ := hb
        have hrt := castV_sound hy hr
        have hown : ∀ t' agg', Sh.dat t agg own = .dat t' agg' true → ownOf v ≠ 0 := by
          intro t' agg' e
          cases e
          rcases hb2 with h | h
          · cases h
          · exact h
        refine ⟨⟨.refl _, id, rfl⟩, fun βf _ => ⟨hrt, ?_, ?_⟩, ?_, hown⟩
        · rw [← hb1]
          cases v with
          | one c => exact vAgg_of_one (Rc.cell hr)
          | agg cs => obtain ⟨vs, rfl, _⟩ := hr; rfl
          | tup ps => simp [castV] at hy
          | any => simp [castV] at hy
        · intro ha
          rw [ha] at hb1
          cases v with
          | one c => exact Rc.cell hr
          | agg cs => cases hb1
          | tup ps => simp [castV] at hy
          | any => simp [castV] at hy
        · cases t <;> cases agg <;> cases own <;> simp only [OwOne]
          rename_i e t'
          intro A n cap eu
          have h0 := hown _ _ rfl
          cases v with
          | one c =>
            cases c <;> simp only [ownOf] at h0 ⊢ <;> try (exact absurd rfl h0)
            rename_i e2 t2 xs2 o2
            obtain ⟨A2, cap2, eu2, _, _, _, ho⟩ := hr
            rw [eu] at eu2
            simp only [Value.slice.injEq] at eu2
            obtain ⟨rfl, rfl, rfl⟩ := eu2
            simp only [castV] at hy
            split at hy
            · rename_i z hz
              simp only [castCs] at hz
              split at hz
              · rename_i z' hz'
                simp only [castC] at hz'
                split at hz'
                · rename_i he; obtain ⟨_, rfl⟩ := he; exact ho
                · cases hz'
              · cases hz
            · cases hy
          | agg cs => cases hb1
          | tup ps => simp [castV] at hy
          | any => simp [castV] at hy
    · cases h
  | ptr n off =>
    simp only [mV] at h
    split at h
    · rename_i k o
      cases ho : o == off with
      | false => rw [ho] at h; cases h
      | true =>
        rw [ho] at h
        simp only [cond_true] at h
        split at h
        · rename_i β1 hβ
          simp only [Option.some.injEq, Prod.mk.injEq] at h
          obtain ⟨_, rfl⟩ := h
          rw [beq_iff_eq] at ho
          subst ho
          obtain ⟨h1, h2, h3, h4⟩ := bnd_sound hβ
          obtain ⟨b, hb, eu⟩ := hr
          refine ⟨⟨h1, h3, h4⟩, fun βf hf => ⟨b, by simp [hf n k h2, hb], eu⟩, trivial, fun t agg e => by cases e⟩
        · cases h
    · cases h

theorem mVs_sound {G : Gh} {w : World} : ∀ {ss : List Sh} {vs : List V} {β β' : Bn} {x : DenL ss} {us : List Value}, mVs ss vs β = some (x, β') → All2 (Rv G w) vs us →
    (β.le β' ∧ (β.inj → β'.inj) ∧ β'.length = β.length) ∧ (∀ βf : Bn, β'.le βf → DvL G.S w (fun n => (βf.at n).bind G.mu) ss x us) ∧ OwV G w ss vs us
  | [], [], β, β', x, [], h, _ => by
    simp only [mVs, Option.some.injEq, Prod.mk.injEq] at h
    obtain ⟨_, rfl⟩ := h
    exact ⟨⟨.refl _, id, rfl⟩, fun _ _ => rfl, trivial⟩
  | s :: ss, v :: vs, β, β', x, u :: us, h, hr => by
    simp only [mVs] at h
    split at h
    · rename_i x1 β1 h1
      split at h
      · rename_i xs β2 h2
        simp only [Option.some.injEq, Prod.mk.injEq] at h
        obtain ⟨rfl, rfl⟩ := h
        obtain ⟨⟨a1, a2, a3⟩, a4, a5, a6⟩ := mV_sound h1 hr.1
        obtain ⟨⟨b1, b2, b3⟩, b4, b5⟩ := mVs_sound h2 hr.2
        exact ⟨⟨a1.trans b1, fun h => b2 (a2 h), b3.trans a3⟩, fun βf hf => ⟨u, us, rfl, a4 βf (b1.trans hf), b4 βf hf⟩, ⟨a5, a6⟩, b5⟩
      · cases h
    · cases h
  | [], _ :: _, _, _, _, _, h, _ => by simp [mVs] at h
  | _ :: _, [], _, _, _, _, h, _ => by simp [mVs] at h
  | _ :: _, _ :: _, _, _, _, [], _, hr => hr.elim
  | [], [], _, _, _, _ :: _, _, hr => hr.elim

/-- From the caller's ids to others. -/
theorem Own.to {G G' : Gh} {w w' : World} {o id n cap size : Nat} {A : Option Addr} (h : Own G w o n A cap size) (h0 : o ≠ 0) (hG : ∀ b l, G.ow o = some (b, l) → G'.ow id = some (b, l) ∧ w'.heap[b]? = w.heap[b]?) : Own G' w' id n A cap size := by
  rcases h with h | h | ⟨b, cur, el, e, h1, h2, h3⟩
  · exact absurd h h0
  · exact .inr (.inl h)
  · obtain ⟨g1, g2⟩ := hG b _ h1
    exact .inr (.inr ⟨b, cur, el, e, g1, g2.trans h2, h3⟩)
theorem OwOne.to {G G' : Gh} {w w' : World} {o id : Nat} {s : Sh} {u : Value} (h : OwOne G w o s u) (h0 : ∀ t agg, s = .dat t agg true → o ≠ 0)
    (hG : ∀ t agg, s = .dat t agg true → ∀ b l, G.ow o = some (b, l) → G'.ow id = some (b, l) ∧ w'.heap[b]? = w.heap[b]?) : OwOne G' w' id s u := by
  cases s with
  | ptr n off => trivial
  | dat t agg own =>
    cases t <;> cases agg <;> cases own <;> simp only [OwOne] at h ⊢
    intro A n cap e
    exact (h A n cap e).to (h0 _ _ rfl) (hG _ _ rfl)
theorem OwV.to {G G' : Gh} {w w' : World} (f : Nat → Nat) : ∀ {ss : List Sh} {vs : List V} {us : List Value} (i : Nat), OwV G w ss vs us → vs.length = us.length →
    (∀ p ∈ owVs f ss vs i, ∀ b l, G.ow p.2 = some (b, l) → G'.ow p.1 = some (b, l) ∧ w'.heap[b]? = w.heap[b]?) → OwL G' w' f ss us i
  | [], _, _, _, _, _, _ => trivial
  | _ :: _, _, [], _, _, _, _ => trivial
  | _ :: _, [], _ :: _, _, _, hl, _ => by simp at hl
  | s :: ss, v :: vs, u :: us, i, h, hl, hG => by
    refine ⟨h.1.1.to h.1.2 ?_, OwV.to f (i + 1) h.2 (by simpa using hl) fun p hp => hG p (by simp only [owVs, List.mem_append]; exact .inr hp)⟩
    rintro t agg rfl b l hb
    exact hG (f i, ownOf v) (by simp [owVs, owV]) b l hb

theorem Rt.single {S : Nat → Nat → Prop} {w : World} {t : Ty} {x : t.den} {u : Value} (h : Rt S w t x u.cells.toList) (hu : u.oneCell' = true) {G : Gh} (hS : G.S = S) : ∃ c, toCs t x = [c] ∧ Rc G w c u := by
  have hc : u.cells = #[u] := by cases u <;> first | rfl | cases hu
  rw [hc] at h
  subst hS
  have hs := toCs_sound (G := G) (w := w) t x [u] h
  cases ht : toCs t x with
  | nil => rw [ht] at hs; exact hs.elim
  | cons c cs =>
    rw [ht] at hs
    cases cs with
    | nil => exact ⟨c, rfl, hs.1⟩
    | cons _ _ => exact hs.2.elim

theorem mkV_sound {G : Gh} {w : World} {m : Nat → Option Nat} {β : Bn} {id : Nat} : ∀ {s : Sh} {x : s.den} {u : Value}, Dv G.S w m s x u → (∀ n b, m n = some b → ∃ k, β.at n = some k ∧ G.mu k = some b) → OwOne G w id s u →
    Rv G w (mkV β s x id) u ∧ (s.cellB = true → ∃ c, mkV β s x id = .one c) ∧ (mkV β s x id).solid = true ∧ (mkV β s x id).isAgg = vAgg u := by
  intro s x u h hm ho
  cases s with
  | ptr n off =>
    obtain ⟨b, hb, eu⟩ := h
    obtain ⟨k, hk, hmu⟩ := hm n b hb
    simp only [mkV, hk]
    exact ⟨⟨b, hmu, eu⟩, fun _ => ⟨_, rfl⟩, rfl, by rw [eu]; rfl⟩
  | dat t agg own =>
    obtain ⟨hr, ha, hone⟩ := h
    cases hoa : own && !agg with
    | true =>
      simp only [Bool.and_eq_true, Bool.not_eq_true'] at hoa
      obtain ⟨rfl, rfl⟩ := hoa
      have hu := hone rfl
      obtain ⟨c, hc, hrc⟩ := hr.single hu (G := G) rfl
      cases t with
      | sl e t' =>
        simp only [mkV, Bool.not_false, Bool.and_self]
        have hcells : u.cells = #[u] := by cases u <;> first | rfl | cases hu
        rw [hcells] at hr
        obtain ⟨A, cap, eu, h1, h2, h3⟩ := hr
        simp only [List.cons.injEq, and_true] at eu
        exact ⟨⟨A, cap, eu, h1, h2, h3, ho A _ cap eu⟩, fun _ => ⟨_, rfl⟩, rfl, by rw [eu]; rfl⟩
      | _ =>
        simp only [mkV, Bool.not_false, Bool.and_self, cond_false, hc]
        exact ⟨hrc, fun _ => ⟨_, rfl⟩, rfl, by rw [vAgg_of_one hu]; rfl⟩
    | false =>
      simp only [mkV, hoa]
      cases agg with
      | true =>
        simp only [cond_true]
        have hu : ∃ vs, u = .agg vs := by cases u <;> simp [vAgg] at ha; exact ⟨_, rfl⟩
        obtain ⟨vs, rfl⟩ := hu
        exact ⟨⟨vs, rfl, toCs_sound t x _ hr⟩, fun h => by simp [Sh.cellB] at h, rfl, rfl⟩
      | false =>
        simp only [cond_false]
        have hu := hone rfl
        obtain ⟨c, hc, hrc⟩ := hr.single hu (G := G) rfl
        rw [hc]
        exact ⟨hrc, fun _ => ⟨c, rfl⟩, rfl, by rw [vAgg_of_one hu]; rfl⟩
theorem mkVs_sound {G : Gh} {w : World} {m : Nat → Option Nat} {β : Bn} (f : Nat → Nat) : ∀ {ss : List Sh} {x : DenL ss} {us : List Value} (i : Nat), DvL G.S w m ss x us → (∀ n b, m n = some b → ∃ k, β.at n = some k ∧ G.mu k = some b) → OwL G w f ss us i →
    All2 (Rv G w) (mkVs β f ss x i) us ∧ (ss.all Sh.cellB = true → All2 (Rc G w) ((mkVs β f ss x i).flatMap V.cells) us) ∧ (∀ v ∈ mkVs β f ss x i, v.solid = true) ∧ (mkVs β f ss x i).length = ss.length
  | [], _, us, _, h, _, _ => by
    have : us = [] := h
    subst this
    exact ⟨trivial, fun _ => trivial, by simp [mkVs], rfl⟩
  | s :: ss, x, us, i, h, hm, ho => by
    obtain ⟨u, us', rfl, h1, h2⟩ := h
    obtain ⟨a1, a2, a3, _⟩ := mkV_sound (β := β) (id := f i) h1 hm ho.1
    obtain ⟨b1, b2, b3, b4⟩ := mkVs_sound f (i + 1) h2 hm ho.2
    refine ⟨⟨a1, b1⟩, fun hc => ?_, ?_, by simp [mkVs, b4]⟩
    · simp only [List.all_cons, Bool.and_eq_true] at hc
      obtain ⟨c, ec⟩ := a2 hc.1
      simp only [mkVs, List.flatMap_cons]
      rw [ec] at a1 ⊢
      exact ⟨a1, b2 hc.2⟩
    · intro v hv
      simp only [mkVs, List.mem_cons] at hv
      rcases hv with rfl | hv
      · exact a3
      · exact b3 v hv

end Go.Proofs.Ytnppjkijhcampaa.Sym
