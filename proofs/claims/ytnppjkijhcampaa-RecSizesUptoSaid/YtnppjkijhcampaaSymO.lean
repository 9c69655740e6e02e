/- Soundness of contracts, second part: the callee's beginning, and the caller's state behind the call. -/
import Derived.Test.YtnppjkijhcampaaSymN

namespace Go.Proofs.Ytnppjkijhcampaa.Sym
open Go
set_option linter.unusedSimpArgs false
set_option linter.unusedVariables false

/-! ## objects -/
def OwO (G : Gh) (w : World) (ob : List (Option (List C))) (β : Bn) : List (List Sh) → Nat → Prop
  | [], _ => True
  | o :: os, i => (∃ k cs b cur el, β.at i = some k ∧ ob.getD k none = some cs ∧ G.mu k = some b ∧ w.heap[b]? = some (.cells cur el (0, 0)) ∧ OwV G w o (cs.map .one) cur.toList ∧ cs.length = cur.toList.length) ∧ OwO G w ob β os (i + 1)
def OwLO (G : Gh) (w : World) (m : Nat → Option Nat) (f : Nat → Nat → Nat) : List (List Sh) → Nat → Prop
  | [], _ => True
  | o :: os, i => (∀ b cur el, m i = some b → w.heap[b]? = some (.cells cur el (0, 0)) → OwL G w (f i) o cur.toList 0) ∧ OwLO G w m f os (i + 1)

theorem one_map {G : Gh} {w : World} : ∀ {cs : List C} {us : List Value}, All2 (Rc G w) cs us → All2 (Rv G w) (cs.map .one) us
  | [], [], _ => trivial
  | _ :: _, _ :: _, h => ⟨h.1, one_map h.2⟩
  | [], _ :: _, h => h.elim
  | _ :: _, [], h => h.elim

theorem castCs_itr (i : List Int × Int) : ∀ (t : Ty) {cs r : List C} {x : t.den}, castCs t cs = some (x, r) → C.itr i ∈ cs → C.itr i ∈ r
  | .unit, cs, r, x, h, hi => by
    simp only [castCs, Option.some.injEq, Prod.mk.injEq] at h
    obtain ⟨_, rfl⟩ := h
    exact hi
  | .prod a b, cs, r, x, h, hi => by
    simp only [castCs] at h
    split at h
    · rename_i x1 r1 h1
      split at h
      · rename_i y r2 h2
        simp only [Option.some.injEq, Prod.mk.injEq] at h
        obtain ⟨_, rfl⟩ := h
        exact castCs_itr i b h2 (castCs_itr i a h1 hi)
      · cases h
    · cases h
  | .int k, [], r, x, h, hi => by cases hi
  | .bool, [], r, x, h, hi => by cases hi
  | .str, [], r, x, h, hi => by cases hi
  | .sl e t, [], r, x, h, hi => by cases hi
  | .int k, c :: cs, r, x, h, hi => by
    simp only [castCs] at h
    split at h
    · rename_i y hy
      simp only [Option.some.injEq, Prod.mk.injEq] at h
      obtain ⟨_, rfl⟩ := h
      rcases List.mem_cons.1 hi with rfl | hi
      · simp [castC] at hy
      · exact hi
    · cases h
  | .bool, c :: cs, r, x, h, hi => by
    simp only [castCs] at h
    split at h
    · rename_i y hy
      simp only [Option.some.injEq, Prod.mk.injEq] at h
      obtain ⟨_, rfl⟩ := h
      rcases List.mem_cons.1 hi with rfl | hi
      · simp [castC] at hy
      · exact hi
    · cases h
  | .str, c :: cs, r, x, h, hi => by
    simp only [castCs] at h
    split at h
    · rename_i y hy
      simp only [Option.some.injEq, Prod.mk.injEq] at h
      obtain ⟨_, rfl⟩ := h
      rcases List.mem_cons.1 hi with rfl | hi
      · simp [castC] at hy
      · exact hi
    · cases h
  | .sl e t, c :: cs, r, x, h, hi => by
    simp only [castCs] at h
    split at h
    · rename_i y hy
      simp only [Option.some.injEq, Prod.mk.injEq] at h
      obtain ⟨_, rfl⟩ := h
      rcases List.mem_cons.1 hi with rfl | hi
      · simp [castC] at hy
      · exact hi
    · cases h
theorem mVs_noItr : ∀ {o : List Sh} {cs : List C} {β : Bn} {r : DenL o × Bn}, mVs o (cs.map .one) β = some r → cs.any C.isItr = false
  | [], [], _, _, _ => rfl
  | [], _ :: _, _, _, h => by simp [mVs] at h
  | _ :: _, [], _, _, _ => rfl
  | s :: ss, c :: cs, β, r, h => by
    simp only [List.map_cons, mVs] at h
    split at h
    · rename_i x1 β1 h1
      split at h
      · rename_i xs β2 h2
        simp only [List.any_cons, mVs_noItr h2, Bool.or_false]
        cases c with
        | itr i =>
          exfalso
          cases s with
          | dat t agg own =>
            simp only [mV] at h1
            split at h1
            · rename_i y hy
              simp only [castV] at hy
              split at hy
              · rename_i z hz
                have := castCs_itr i t hz (by simp)
                cases this
              · cases hy
            · cases h1
          | ptr n off => simp [mV] at h1
        | _ => rfl
      · cases h
    · cases h
theorem mOb_sound {G : Gh} {w : World} {A : AS} (hob : ObOk G w A) : ∀ {os : List (List Sh)} {i : Nat} {β β' : Bn} {x : DenO os}, mOb A.ob os i β = some (x, β') →
    (β.le β' ∧ (β.inj → β'.inj) ∧ β'.length = β.length) ∧ (∀ βf : Bn, β'.le βf → DvO G.S w (fun n => (βf.at n).bind G.mu) os x i) ∧ (∀ βf : Bn, β'.le βf → OwO G w A.ob βf os i) ∧ (∀ j, i ≤ j → j < i + os.length → ∃ k cs, β'.at j = some k ∧ A.ob[k]? = some (some cs))
  | [], i, β, β', x, h => by
    simp only [mOb, Option.some.injEq, Prod.mk.injEq] at h
    obtain ⟨_, rfl⟩ := h
    exact ⟨⟨.refl _, id, rfl⟩, fun _ _ => trivial, fun _ _ => trivial, fun j h1 h2 => by simp at h2; omega⟩
  | o :: os, i, β, β', x, h => by
    simp only [mOb] at h
    split at h
    · rename_i k hk
      split at h
      · rename_i cs hcs
        split at h
        · rename_i x1 β1 h1
          split at h
          · rename_i xs β2 h2
            simp only [Option.some.injEq, Prod.mk.injEq] at h
            obtain ⟨rfl, rfl⟩ := h
            have hcs' : A.ob[k]? = some (some cs) := by
              rw [List.getD_eq_getElem?_getD] at hcs
              cases hg : A.ob[k]? with
              | none => rw [hg] at hcs; cases hcs
              | some y => rw [hg] at hcs; simp only [Option.getD_some] at hcs; rw [hcs]
            obtain ⟨b, cur, el, hm, hh, hr⟩ := hob.cells hcs' (mVs_noItr h1)
            obtain ⟨⟨a1, a2, a3⟩, a4, a5⟩ := mVs_sound h1 (one_map hr)
            obtain ⟨⟨b1, b2, b3⟩, b4, b5, b6⟩ := mOb_sound hob h2
            refine ⟨⟨a1.trans b1, fun h => b2 (a2 h), b3.trans a3⟩, fun βf hf => ⟨⟨b, cur, el, ?_, hh, a4 βf (b1.trans hf)⟩, b4 βf hf⟩, fun βf hf => ⟨⟨k, cs, b, cur, el, (a1.trans (b1.trans hf)) i k hk, hcs, hm, hh, a5, hr.length⟩, b5 βf hf⟩, ?_⟩
            · simp [(a1.trans (b1.trans hf)) i k hk, hm]
            · intro j h1 h2
              by_cases e : j = i
              · subst e; exact ⟨k, cs, (a1.trans b1) j k hk, hcs'⟩
              · exact b6 j (by omega) (by simp at h2; omega)
          · cases h
        · cases h
      · cases h
    · cases h

theorem OwO.to {G G' : Gh} {w : World} {ob : List (Option (List C))} {β β' : Bn} (m : Nat → Option Nat) (f : Nat → Nat → Nat) : ∀ {os : List (List Sh)} (i : Nat), OwO G w ob β os i → (∀ j k, β.at j = some k → m j = G.mu k) →
    (∀ j, i ≤ j → j < i + os.length → ∃ k', β'.at j = some k' ∧ f j = idCell k') → (∀ p ∈ owOb ob β β' os i, ∀ b l, G.ow p.2 = some (b, l) → G'.ow p.1 = some (b, l)) → OwLO G' w m f os i
  | [], _, _, _, _, _ => trivial
  | o :: os, i, ⟨⟨k, cs, b, cur, el, h1, h2, h3, h4, h5, h6⟩, h7⟩, hm, hb, hG => by
    obtain ⟨k', hk', hf⟩ := hb i (Nat.le_refl _) (by simp)
    have hl : owOb ob β β' (o :: os) i = owVs (idCell k') o (cs.map .one) 0 ++ owOb ob β β' os (i + 1) := by
      simp only [owOb, h1, hk', h2, Option.getD_some]
    refine ⟨fun b' cur' el' hb' hh' => ?_, OwO.to m f (i + 1) h7 hm (fun j h1 h2 => hb j (by omega) (by simp; omega)) fun p hp => hG p (by rw [hl]; exact List.mem_append_right _ hp)⟩
    rw [hm i k h1, h3] at hb'
    cases hb'
    rw [h4] at hh'
    cases hh'
    rw [hf]
    exact h5.to (idCell k') 0 (by rw [List.length_map]; exact h6) fun p hp b l hbl => ⟨hG p (by rw [hl]; exact List.mem_append_left _ hp) b l hbl, rfl⟩

theorem setOb_sound {G : Gh} {w : World} {m : Nat → Option Nat} {β : Bn} (hm : ∀ n b, m n = some b → ∃ k, β.at n = some k ∧ G.mu k = some b) : ∀ {os : List (List Sh)} {x : DenO os} (i : Nat) {ob : List (Option (List C))},
    DvO G.S w m os x i → OwLO G w m (fun j => match β.at j with | some k => idCell k | none => id) os i → os.all (·.all Sh.cellB) = true →
    (∀ (k : Nat) (cs : List C), ob[k]? = some (some cs) → (∃ b o, G.mu k = some b ∧ w.heap[b]? = some o ∧ ObjOk G w cs o) ∨ ∃ j, i ≤ j ∧ j < i + os.length ∧ β.at j = some k) →
    ∀ (k : Nat) (cs : List C), (setOb β os x i ob)[k]? = some (some cs) → ∃ b o, G.mu k = some b ∧ w.heap[b]? = some o ∧ ObjOk G w cs o
  | [], x, i, ob, _, _, _, hob, k, cs, hk => by
    rcases hob k cs hk with h | ⟨j, h1, h2, _⟩
    · exact h
    · simp at h2; omega
  | o :: os, x, i, ob, ⟨⟨b, cur, el, h1, h2, h3⟩, h4⟩, ho, hc, hob, k, cs, hk => by
    obtain ⟨k0, hk0, hmu⟩ := hm i b h1
    simp only [setOb, hk0] at hk
    simp only [List.all_cons, Bool.and_eq_true] at hc
    have hl := ho.1 b cur el h1 h2
    simp only [hk0] at hl
    obtain ⟨_, hcells, _⟩ := mkVs_sound (β := β) (idCell k0) 0 h3 hm hl
    refine setOb_sound hm (i + 1) h4 ho.2 hc.2 ?_ k cs hk
    intro k' cs' hk'
    rw [List.getElem?_set] at hk'
    split at hk'
    · rename_i e
      split at hk'
      · simp only [Option.some.injEq] at hk'
        subst e; subst hk'
        exact .inl ⟨b, _, hmu, h2, .inl ⟨cur, el, rfl, hcells hc.1⟩⟩
      · cases hk'
    · rename_i hne
      rcases hob k' cs' hk' with h | ⟨j, g1, g2, g3⟩
      · exact .inl h
      · by_cases e : j = i
        · subst e; rw [hk0] at g3; cases g3; exact absurd rfl hne
        · exact .inr ⟨j, by omega, by simp at g2; omega, g3⟩

/-! ## the callee's ghost -/
def inGh (G : Gh) (β : Bn) (ow : List (Nat × Nat)) : Gh := ⟨G.S, fun j => (β.at j).bind G.mu, fun j => match ow.find? (·.1 == j) with | some p => G.ow p.2 | none => none⟩
def inFra (G : Gh) (w : World) (β : Bn) (ow : List (Nat × Nat)) : Fra :=
  ⟨w, fun b => (∃ j, (inGh G β ow).mu j = some b) ∨ ∃ j l, (inGh G β ow).ow j = some (b, l), G.S, (inGh G β ow).mu⟩
theorem inGh_mu {G : Gh} {β : Bn} {ow : List (Nat × Nat)} {j b : Nat} (h : (inGh G β ow).mu j = some b) : ∃ k, β.at j = some k ∧ G.mu k = some b := by
  simp only [inGh] at h
  cases hk : β.at j with
  | none => rw [hk] at h; cases h
  | some k => rw [hk] at h; exact ⟨k, rfl, h⟩
theorem inGh_ow {G : Gh} {β : Bn} {ow : List (Nat × Nat)} {j b l : Nat} (h : (inGh G β ow).ow j = some (b, l)) : ∃ p ∈ ow, p.1 = j ∧ G.ow p.2 = some (b, l) := by
  simp only [inGh] at h
  split at h
  · rename_i p hp
    obtain ⟨h1, h2⟩ := find_mem hp
    exact ⟨p, h1, h2, h⟩
  · cases h

theorem inGh_ok {F : Fra} {G : Gh} {w : World} (h : GhOk F G w) {β : Bn} {ow : List (Nat × Nat)} (hβ : β.inj) (hn : nodupB (ow.map (·.2)) = true) : GhOk (inFra G w β ow) (inGh G β ow) w where
  mu := fun key b hb => by
    obtain ⟨k, _, hk⟩ := inGh_mu hb
    exact ⟨.inr (.inl ⟨key, hb⟩), (h.mu k b hk).2.1, (h.mu k b hk).2.2⟩
  muI := fun i j b hi hj => by
    obtain ⟨k, h1, h2⟩ := inGh_mu hi
    obtain ⟨k', h3, h4⟩ := inGh_mu hj
    have := h.muI _ _ _ h2 h4
    subst this
    exact hβ i j k h1 h3
  ow := fun i b l hi => by
    obtain ⟨p, hp, _, hb⟩ := inGh_ow hi
    obtain ⟨h1, _, h3, h4⟩ := h.ow _ _ _ hb
    exact ⟨h1, .inr (.inr ⟨i, l, hi⟩), h3, fun key hk => by obtain ⟨k, _, hk'⟩ := inGh_mu hk; exact h4 k hk'⟩
  owI := fun i j b l l' hi hj => by
    obtain ⟨p, hp, rfl, hb⟩ := inGh_ow hi
    obtain ⟨q, hq, rfl, hb'⟩ := inGh_ow hj
    have e := h.owI _ _ _ _ _ hb hb'
    rw [nodupB_inj hn hp hq e]
  sB := h.sB
  fr := ⟨rfl, rfl, rfl, Nat.le_refl _, fun _ _ _ => rfl⟩
  sub := fun _ _ h => h
  sup := fun _ _ h => .inl h
  keep := fun _ _ _ => rfl
  fix_ := fun _ _ h => h

/-! ## the caller's ghost behind the call -/
def outGh (G G' : Gh) (I : List Nat) (OW : List (Nat × Nat)) (base nn : Nat) (mn : Nat → Option Nat) : Gh :=
  ⟨G'.S, fun k => if base ≤ k ∧ k < base + nn then mn (k - base) else G.mu k, fun j => match OW.find? (·.1 == j) with | some p => G'.ow p.2 | none => if j ∈ I then none else G.ow j⟩

section
variable {F : Fra} {G G' : Gh} {w w' : World} {β : Bn} {ow : List (Nat × Nat)}

/-- A block that the callee's own are in is none of the caller's others. -/
theorem mine_out {b : Nat} (h : GhOk F G w) (hm : (inFra G w β ow).mine b) : F.mine b := by
  rcases hm with hm | ⟨j, hm⟩ | ⟨j, l, hm⟩
  · exact .inl (Nat.le_trans h.fr.size hm)
  · obtain ⟨k, _, hk⟩ := inGh_mu hm; exact (h.mu k b hk).1
  · obtain ⟨p, _, _, hb⟩ := inGh_ow hm; exact (h.ow _ _ _ hb).2.1
theorem mine_mu (h : GhOk F G w) {key b : Nat} (hk : G.mu key = some b) (hm : (inFra G w β ow).mine b) : ∃ j, (inGh G β ow).mu j = some b := by
  rcases hm with hm | hm | ⟨j, l, hm⟩
  · have := (h.mu key b hk).2.2; exact absurd hm (by show ¬ w.heap.size ≤ b; omega)
  · exact hm
  · obtain ⟨p, _, _, hb⟩ := inGh_ow hm; exact absurd hk ((h.ow _ _ _ hb).2.2.2 key)
theorem mine_ow (h : GhOk F G w) {i b l : Nat} (hi : G.ow i = some (b, l)) (hm : (inFra G w β ow).mine b) : ∃ p ∈ ow, p.2 = i := by
  rcases hm with hm | ⟨j, hm⟩ | ⟨j, l', hm⟩
  · have := (h.ow i b l hi).2.2.1; exact absurd hm (by show ¬ w.heap.size ≤ b; omega)
  · obtain ⟨k, _, hk⟩ := inGh_mu hm; exact absurd hk ((h.ow _ _ _ hi).2.2.2 k)
  · obtain ⟨p, hp, _, hb⟩ := inGh_ow hm; exact ⟨p, hp, h.owI _ _ _ _ _ hb hi⟩

theorem outGh_ow {I : List Nat} {OW : List (Nat × Nat)} {base nn : Nat} {mn : Nat → Option Nat} {j b l : Nat} (hj : (outGh G G' I OW base nn mn).ow j = some (b, l)) :
    (∃ p ∈ OW, p.1 = j ∧ OW.find? (·.1 == j) = some p ∧ G'.ow p.2 = some (b, l)) ∨ (OW.find? (·.1 == j) = none ∧ j ∉ I ∧ G.ow j = some (b, l)) := by
  simp only [outGh] at hj
  split at hj
  · rename_i p hp
    obtain ⟨h1, h2⟩ := find_mem hp
    exact .inl ⟨p, h1, h2, hp, hj⟩
  · rename_i hn
    split at hj
    · cases hj
    · rename_i hI; exact .inr ⟨hn, hI, hj⟩

theorem outGh_ok (h : GhOk F G w) (h' : GhOk (inFra G w β ow) G' w') {I : List Nat} (hI : ∀ p ∈ ow, p.2 ∈ I) {OW : List (Nat × Nat)} (hO2 : nodupB (OW.map (·.2)) = true) {base nn : Nat} {mn : Nat → Option Nat}
    (hbase : ∀ d, F.mu0 (base + d) = none) (hmn : ∀ j b, mn j = some b → (∀ i, (inGh G β ow).mu i ≠ some b) ∧ ∃ k, G'.mu k = some b) (hmi : ∀ i j b, mn i = some b → mn j = some b → i = j) :
    GhOk F (outGh G G' I OW base nn mn) w' := by
  have hS : ∀ b o, G'.S b o → G.S b o ∨ (inFra G w β ow).mine b := fun b o hs => h'.sup b o hs
  have hold : ∀ key b, G.mu key = some b → ∀ o, ¬ G'.S b o := by
    intro key b hk o hs
    rcases hS b o hs with hs | hm
    · exact (h.mu key b hk).2.1 o hs
    · obtain ⟨j, hj⟩ := mine_mu h hk hm
      exact (h'.mu j b (h'.fix_ j b hj)).2.1 o hs
  have hsz : w.heap.size ≤ w'.heap.size := h'.fr.size
  refine ⟨?_, ?_, ?_, ?_, h'.sB, ?_, ?_, ?_, ?_, ?_⟩
  · intro key b hb
    simp only [outGh] at hb
    split at hb
    · obtain ⟨_, k, hk⟩ := hmn _ b hb
      obtain ⟨g1, g2, g3⟩ := h'.mu k b hk
      exact ⟨mine_out h g1, g2, g3⟩
    · exact ⟨(h.mu key b hb).1, hold key b hb, by have := (h.mu key b hb).2.2; omega⟩
  · intro key key' b hk hk'
    simp only [outGh] at hk hk'
    split at hk <;> split at hk'
    · rename_i e1 e2
      have := hmi _ _ b hk hk'
      omega
    · obtain ⟨g1, k, g2⟩ := hmn _ b hk
      obtain ⟨j, hj⟩ := mine_mu h hk' (h'.mu k b g2).1
      exact absurd hj (g1 j)
    · obtain ⟨g1, k, g2⟩ := hmn _ b hk'
      obtain ⟨j, hj⟩ := mine_mu h hk (h'.mu k b g2).1
      exact absurd hj (g1 j)
    · exact h.muI _ _ _ hk hk'
  · intro i b l hi
    rcases outGh_ow hi with ⟨p, hp, _, _, hb⟩ | ⟨_, hnI, hb⟩
    · obtain ⟨g1, g2, g3, g4⟩ := h'.ow _ _ _ hb
      refine ⟨g1, mine_out h g2, g3, fun key hk => ?_⟩
      simp only [outGh] at hk
      split at hk
      · obtain ⟨_, k, hk'⟩ := hmn _ b hk; exact g4 k hk'
      · obtain ⟨j, hj⟩ := mine_mu h hk g2; exact g4 j (h'.fix_ j b hj)
    · obtain ⟨g1, g2, g3, g4⟩ := h.ow _ _ _ hb
      refine ⟨fun o ho hs => ?_, g2, by omega, fun key hk => ?_⟩
      · rcases hS b o hs with hs | hm
        · exact g1 o ho hs
        · obtain ⟨p, hp, rfl⟩ := mine_ow h hb hm; exact hnI (hI p hp)
      · simp only [outGh] at hk
        split at hk
        · obtain ⟨_, k, hk'⟩ := hmn _ b hk
          obtain ⟨p, hp, rfl⟩ := mine_ow h hb (h'.mu k b hk').1
          exact hnI (hI p hp)
        · exact g4 key hk
  · intro i j b l l' hi hj
    rcases outGh_ow hi with ⟨p, hp, rfl, hf, hb⟩ | ⟨_, hnI, hb⟩ <;> rcases outGh_ow hj with ⟨q, hq, rfl, hf', hb'⟩ | ⟨_, hnI', hb'⟩
    · rw [nodupB_inj hO2 hp hq (h'.owI _ _ _ _ _ hb hb')]
    · obtain ⟨r, hr, rfl⟩ := mine_ow h hb' (h'.ow _ _ _ hb).2.1
      exact absurd (hI r hr) hnI'
    · obtain ⟨r, hr, rfl⟩ := mine_ow h hb (h'.ow _ _ _ hb').2.1
      exact absurd (hI r hr) hnI
    · exact h.owI _ _ _ _ _ hb hb'
  · refine ⟨h'.fr.os.trans h.fr.os, h'.fr.tape.trans h.fr.tape, h'.fr.output.trans h.fr.output, Nat.le_trans h.fr.size hsz, fun k hk hx => ?_⟩
    have hk' : k < w.heap.size := Nat.lt_of_lt_of_le hk h.fr.size
    rw [← h.fr.block k hk hx]
    refine h'.fr.block k hk' fun hX => ?_
    rcases mine_out (b := k) h (.inr hX) with hm | hm
    · omega
    · exact hx hm
  · exact fun b o hs => h'.sub b o (h.sub b o hs)
  · intro b o hs
    rcases hS b o hs with hs | hm
    · exact h.sup b o hs
    · exact .inr (mine_out h hm)
  · exact fun b o hs => (h'.keep b o (h.sub b o hs)).trans (h.keep b o hs)
  · intro key b hb
    simp only [outGh]
    rw [if_neg]
    · exact h.fix_ key b hb
    · rintro ⟨h1, _⟩
      have := hbase (key - base)
      rw [show base + (key - base) = key by omega, hb] at this
      cases this

/-- The caller's values live on, but for what is stripped. -/
theorem outGh_val (h : GhOk F G w) (h' : GhOk (inFra G w β ow) G' w') {I : List Nat} (hI : ∀ p ∈ ow, p.2 ∈ I) {OW : List (Nat × Nat)} (hO1 : ∀ p ∈ OW, p.1 ∈ I) {base nn : Nat} {mn : Nat → Option Nat} {c : C} {v : Value} (hc : Rc G w c v) :
    Rc (outGh G G' I OW base nn mn) w' (c.strip I ((List.range nn).map (base + ·))) v := by
  have hk : Kept G.S G'.S w w' := fun b o hs => ⟨h'.sub b o hs, h'.keep b o hs⟩
  unfold C.strip
  cases hKs : ((List.range nn).map (base + ·)).any fun k => c.hasKey k with
  | true => exact hc.cell
  | false =>
    rw [List.any_eq_false] at hKs
    have hmu : ∀ key b, c.hasKey key = true → G.mu key = some b → (outGh G G' I OW base nn mn).mu key = some b := by
      intro key b hh hb
      simp only [outGh]
      rw [if_neg]
      · exact hb
      · rintro ⟨h1, h2⟩
        exact absurd hh (by simpa using hKs key (List.mem_map.2 ⟨key - base, List.mem_range.2 (by omega), by omega⟩))
    simp only [cond_false]
    cases c with
    | lst e t xs own =>
      simp only
      obtain ⟨A, cap, e1, h1, h2, h3, h4⟩ := hc
      cases hi : I.any (· == own) with
      | true => exact ⟨A, cap, e1, h1, h2, h3.kept hk, .inl rfl⟩
      | false =>
        have hnI : own ∉ I := by
          intro hm
          rw [List.any_eq_false] at hi
          exact hi own hm (by simp)
        refine ⟨A, cap, e1, h1, h2, h3.kept hk, ?_⟩
        rcases h4 with h4 | h4 | ⟨b, cur, el, ea, ho, hh, hs⟩
        · exact .inl h4
        · exact .inr (.inl h4)
        · have hfn : OW.find? (·.1 == own) = none := by
            cases hf : OW.find? (·.1 == own) with
            | none => rfl
            | some p => obtain ⟨g1, rfl⟩ := find_mem hf; exact absurd (hO1 p g1) hnI
          refine .inr (.inr ⟨b, cur, el, ea, by simp [outGh, hfn, hnI, ho], ?_, hs⟩)
          rw [← hh]
          refine h'.fr.block b (h.ow _ _ _ ho).2.2.1 fun hX => ?_
          obtain ⟨p, hp, rfl⟩ := mine_ow h ho (.inr hX)
          exact hnI (hI p hp)
    | ptr key off =>
      obtain ⟨b, hb, e⟩ := hc
      exact ⟨b, hmu key b (by simp [C.hasKey]) hb, e⟩
    | ro t x =>
      obtain ⟨b, o, cs, e, h1, h2⟩ := hc
      exact ⟨b, o, cs, e, Rt.kept hk t x cs h1, h2.kept hk⟩
    | fn f caps =>
      obtain ⟨vs, e, hv⟩ := hc
      refine ⟨vs, e, hv.mono fun p hp u hu => ?_⟩
      cases p with
      | ptr key off =>
        obtain ⟨b, hb, e⟩ := hu
        exact ⟨b, hmu key b (by simp only [C.hasKey, List.any_eq_true]; exact ⟨_, hp, by simp [Cp.hasKey]⟩) hb, e⟩
      | dat t x => exact Rt.kept hk t x _ hu
    | ifc T t x =>
      obtain ⟨u, e, hu, hag⟩ := hc
      exact ⟨u, e, Rt.kept hk t x _ hu, hag⟩
    | _ => exact hc
/-- Objects that were not handed over are as they were. -/
theorem outGh_heap (h : GhOk F G w) (h' : GhOk (inFra G w β ow) G' w') {key b : Nat} (hk : G.mu key = some b) (hn : ∀ j, (inGh G β ow).mu j ≠ some b) : w'.heap[b]? = w.heap[b]? := by
  refine h'.fr.block b (h.mu key b hk).2.2 fun hX => ?_
  obtain ⟨j, hj⟩ := mine_mu h hk (.inr hX)
  exact hn j hj
end

end Go.Proofs.Ytnppjkijhcampaa.Sym
