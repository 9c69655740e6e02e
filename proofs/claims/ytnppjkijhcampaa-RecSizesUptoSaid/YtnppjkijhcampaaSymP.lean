/- Soundness of contracts, third part: a function whose body comes to what the contract says may be called by the contract. -/
import Derived.Test.YtnppjkijhcampaaSymO

namespace Go.Proofs.Ytnppjkijhcampaa.Sym
open Go
set_option linter.unusedSimpArgs false
set_option linter.unusedVariables false

theorem bnId_at (n m j : Nat) : (bnId n m).at j = if j < n then some j else none := by
  unfold bnId Bn.at
  rw [List.getD_eq_getElem?_getD, List.getElem?_append]
  simp only [List.length_map, List.length_range, List.getElem?_map, List.getElem?_range]
  split
  · rename_i h; simp [h]
  · rw [List.getElem?_replicate]; split <;> rfl
theorem bnId_inj (n m : Nat) : (bnId n m).inj := by
  intro i j k hi hj
  rw [bnId_at] at hi hj
  split at hi <;> split at hj <;> simp_all
theorem none_at (n j : Nat) : Bn.at (List.replicate n none) j = none := by
  unfold Bn.at
  rw [List.getD_eq_getElem?_getD, List.getElem?_replicate]
  split <;> rfl
theorem Bn.at_lt {β : Bn} {j k : Nat} (h : β.at j = some k) : j < β.length := by
  unfold Bn.at at h
  rw [List.getD_eq_getElem?_getD] at h
  rcases Nat.lt_or_ge j β.length with h' | h'
  · exact h'
  · rw [List.getElem?_eq_none h'] at h; cases h
theorem Bn.at_mem {β : Bn} {j k : Nat} (h : β.at j = some k) : some k ∈ β := by
  have hl := Bn.at_lt h
  unfold Bn.at at h
  rw [List.getD_eq_getElem?_getD, List.getElem?_eq_getElem hl] at h
  simp only [Option.getD_some] at h
  rw [← h]; exact List.getElem_mem hl

theorem All2.replicate {α β : Type} {R : α → β → Prop} {a : α} {b : β} (h : R a b) : ∀ n, All2 R (List.replicate n a) (List.replicate n b)
  | 0 => trivial
  | n + 1 => ⟨h, All2.replicate h n⟩

section
variable {P : Program} {tt : TT}

/-- The callee begins. -/
theorem start_rel {F : Fra} {G : Gh} {A : AS} {ts : Array Value} {cst : List (Array Value)} {w : World} (R : Rel F G A ts cst w) (io : Io) {args : List V} {vals : Array Value} {a : DenL io.args} {o : DenO io.obs} {β1 β : Bn}
    (h1 : mVs io.args args (List.replicate io.obs.length none) = some (a, β1)) (h2 : mOb A.ob io.obs 0 β1 = some (o, β)) (hv : All2 (Rv G w) args vals.toList)
    {ow : List (Nat × Nat)} (how : ow = owVs (idTmp 0) io.args args 0 ++ owOb A.ob β (bnId io.obs.length 0) io.obs 0) (hn1 : nodupB (ow.map (·.1)) = true) (hn2 : nodupB (ow.map (·.2)) = true) (hok : io.ok = true) (nt : Nat) :
    Rel (inFra G w β ow) (inGh G β ow) (io.start nt (a, o)) (vals ++ Array.replicate (nt - vals.size) undef) [] w ∧ β.inj ∧ β.length = io.obs.length ∧ ∀ j, j < io.obs.length → ∃ k cs, β.at j = some k ∧ A.ob[k]? = some (some cs) := by
  obtain ⟨⟨a1, a2, a3⟩, a4, a5⟩ := mVs_sound h1 hv
  obtain ⟨⟨b1, b2, b3⟩, b4, b5, b6⟩ := mOb_sound R.ob h2
  have hinj : β.inj := b2 (a2 fun i j k hi => by rw [none_at] at hi; cases hi)
  have hlen : β.length = io.obs.length := by rw [b3, a3, List.length_replicate]
  have hm : ∀ n b, ((β.at n).bind G.mu) = some b → ∃ k, (bnId io.obs.length 0).at n = some k ∧ (inGh G β ow).mu k = some b := by
    intro n b hb
    refine ⟨n, ?_, hb⟩
    cases hk : β.at n with
    | none => rw [hk] at hb; cases hb
    | some k => rw [bnId_at, if_pos (by rw [← hlen]; exact Bn.at_lt hk)]
  have hfind : ∀ p ∈ ow, ∀ b l, G.ow p.2 = some (b, l) → (inGh G β ow).ow p.1 = some (b, l) := by
    intro p hp b l hb
    simp only [inGh, nodupB_find hn1 hp, hb]
  have hargs := a4 β b1
  have hal : args.length = vals.toList.length := hv.length
  have hao : OwL (inGh G β ow) w (idTmp 0) io.args vals.toList 0 := a5.to (idTmp 0) 0 hal fun p hp b l hb => ⟨hfind p (by rw [how]; exact List.mem_append_left _ hp) b l hb, rfl⟩
  obtain ⟨c1, _, _, c4⟩ := mkVs_sound (G := inGh G β ow) (β := bnId io.obs.length 0) (idTmp 0) 0 hargs hm hao
  have hobs : OwLO (inGh G β ow) w (fun n => (β.at n).bind G.mu) (fun j => match (bnId io.obs.length 0).at j with | some k => idCell k | none => id) io.obs 0 := by
    refine (b5 β (.refl _)).to _ _ 0 (fun j k hk => by simp [hk]) (fun j _ hj => ?_) fun p hp b l hb => hfind p (by rw [how]; exact List.mem_append_right _ hp) b l hb
    have e : (bnId io.obs.length 0).at j = some j := by rw [bnId_at, if_pos (by simpa using hj)]
    exact ⟨j, e, by rw [e]⟩
  have hokb : io.obs.all (·.all Sh.cellB) = true := by
    unfold Io.ok at hok; rw [List.all_append, Bool.and_eq_true] at hok; exact hok.1
  refine ⟨⟨?_, trivial, ?_, inGh_ok R.gh hinj hn2⟩, hinj, hlen, fun j hj => b6 j (Nat.zero_le _) (by simpa using hj)⟩
  · have e : (vals ++ Array.replicate (nt - vals.size) undef).toList = vals.toList ++ List.replicate (nt - io.args.length) undef := by
      have : vals.size = io.args.length := by rw [← c4, c1.length]; simp
      simp [this]
    rw [e]
    exact c1.append (All2.replicate Rv.any _)
  · intro k cs hk
    exact setOb_sound (G := inGh G β ow) hm 0 (b4 β (.refl _)) hobs hokb (fun k cs hk => by
      rw [List.getElem?_replicate] at hk
      split at hk
      · cases hk
      · cases hk) k cs hk

/-! ### results -/
theorem run_mapM_rel {α β : Type} {w : World} (f : α → Sem β) (Q : α → β → Prop) : ∀ l : List α, (∀ x ∈ l, ∃ u, (f x).run P w = .ok u w ∧ Q x u) → ∃ us, (l.mapM f).run P w = .ok us w ∧ All2 Q l us
  | [], _ => ⟨[], by simp, trivial⟩
  | x :: l, h => by
    obtain ⟨u, h1, h2⟩ := h x (by simp)
    obtain ⟨us, h3, h4⟩ := run_mapM_rel f Q l fun y hy => h y (by simp [hy])
    exact ⟨u :: us, by simp [List.mapM_cons, h1, h3], h2, h4⟩

theorem mV_ne_any {s : Sh} {v : V} {β β' : Bn} {x : s.den} (h : mV s v β = some (x, β')) : v ≠ .any := by
  rintro rfl
  cases s <;> simp [mV, castV] at h
theorem mVs_ne_any : ∀ {ss : List Sh} {vs : List V} {β β' : Bn} {x : DenL ss}, mVs ss vs β = some (x, β') → ∀ v ∈ vs, v ≠ .any
  | [], [], _, _, _, _, v, hv => by simp at hv
  | s :: ss, v :: vs, β, β', x, h, u, hu => by
    simp only [mVs] at h
    split at h
    · rename_i x1 β1 h1
      split at h
      · rename_i xs β2 h2
        rcases List.mem_cons.1 hu with rfl | hu
        · exact mV_ne_any h1
        · exact mVs_ne_any h2 u hu
      · cases h
    · cases h
  | [], _ :: _, _, _, _, h, _, _ => by simp [mVs] at h
  | _ :: _, [], _, _, _, h, _, _ => by simp [mVs] at h

def resRun (ts : Array Value) : ResultVar → Sem Value
  | .tmp t => pure (ts.getD t undef)
  | .cell a t => do loadVar t (← asAddr (ts.getD a undef))
theorem results_eq (fn : Func) (ts : Array Value) : results fn ts = (do let vs ← fn.results.mapM (resRun ts); pure (if h : vs.size = 1 then vs[0] else .tuple vs)) := by
  unfold results
  congr 1

theorem resV_sound (htt : TTok P tt) {F : Fra} {G : Gh} {A : AS} {ts : Array Value} {cst : List (Array Value)} {w : World} (R : Rel F G A ts cst w) (rv : ResultVar) (h : resV tt A rv ≠ .any) :
    ∃ u, (resRun ts rv).run P w = .ok u w ∧ Rv G w (resV tt A rv) u := by
  cases rv with
  | tmp t => exact ⟨_, by simp [resRun], R.get t⟩
  | cell a t =>
    have ha := R.get a
    simp only [resV] at h ⊢
    split at h
    · rename_i k o e1
      rw [e1] at ha
      split at h
      · rename_i cs hcs
        cases hb : !cs.any C.isItr && decide (o + (tt.at t).size ≤ cs.length) with
        | false => rw [hb] at h; exact absurd rfl h
        | true =>
          rw [hb] at h
          simp only [cond_true] at h ⊢
          cases hp : partV tt t ((cs.drop o).take (tt.at t).size) with
          | none => rw [hp] at h; exact absurd rfl h
          | some v =>
            simp only [Bool.and_eq_true, Bool.not_eq_true', decide_eq_true_eq] at hb
            obtain ⟨hni, hb⟩ := hb
            obtain ⟨b, hm, eu⟩ := ha
            obtain ⟨b', cur, el, hm', hh, hr⟩ := R.ob.cells hcs hni
            rw [hm] at hm'; cases hm'
            have hr' : All2 (Rc G w) ((cs.drop o).take (tt.at t).size) ((cur.toList.drop o).take (tt.at t).size) := (hr.drop o).take _
            obtain ⟨u, hu, hru⟩ := run_loadVar_at (P := P) (o := o) htt hp hr' (by simp; omega) (fun j u hj => by
              rw [cell_at hh]
              rw [List.getElem?_take] at hj
              split at hj
              · rw [List.getElem?_drop] at hj; exact hj
              · cases hj)
            refine ⟨u, by simp [resRun, eu, asAddr, hu], ?_⟩
            exact hru
      · exact absurd rfl h
    · exact absurd rfl h

/-- Several values as the function's result. -/
def resVal (us : List Value) : Value := if h : us.length = 1 then us[0] else .tuple us.toArray
theorem run_results (htt : TTok P tt) {F : Fra} {G : Gh} {A : AS} {ts : Array Value} {cst : List (Array Value)} {w : World} (R : Rel F G A ts cst w) (fn : Func) (h : ∀ v ∈ fn.results.toList.map (resV tt A), v ≠ .any) :
    ∃ us, (results fn ts).run P w = .ok (resVal us) w ∧ All2 (Rv G w) (fn.results.toList.map (resV tt A)) us := by
  obtain ⟨us, h1, h2⟩ := run_mapM_rel (P := P) (w := w) (resRun ts) (fun rv u => Rv G w (resV tt A rv) u) fn.results.toList fun rv hrv => resV_sound htt R rv (h _ (List.mem_map.2 ⟨rv, hrv, rfl⟩))
  refine ⟨us, ?_, h2.map_left _ fun a b h => h⟩
  rw [results_eq]
  simp only [Sem.run_bind]
  rw [Array.mapM_eq_mapM_toList]
  simp only [map_eq_pure_bind, Sem.run_bind, h1, Result.andThen_ok, Sem.run_pure]
  congr 1

theorem RcOne_of {G : Gh} {w : World} {v : V} {u : Value} (h : Rv G w v u) (hs : v.solid = true) : RcOne G w (v.isAgg, v.cells) u := by
  cases v with
  | one c => exact .inr ⟨rfl, c, rfl, h⟩
  | agg cs => exact .inl ⟨rfl, h⟩
  | tup ps => cases hs
  | any => cases hs
theorem resOf_sound {G : Gh} {w : World} {vs : List V} {us : List Value} (h : All2 (Rv G w) vs us) (hs : ∀ v ∈ vs, v.solid = true) :
    Rv G w (tupV vs) (resVal us) := by
  have hl := h.length
  have tup : us.length ≠ 1 → Rv G w (.tup (vs.map fun v => (v.isAgg, v.cells))) (resVal us) := by
    intro hne
    refine ⟨us.toArray, by simp [resVal, hne], ?_⟩
    show All2 _ _ us
    clear hl hne
    induction vs generalizing us with
    | nil => cases us with
      | nil => trivial
      | cons _ _ => exact h.elim
    | cons v vs ih => cases us with
      | nil => exact h.elim
      | cons u us => exact ⟨RcOne_of h.1 (hs v (by simp)), ih h.2 fun v hv => hs v (by simp [hv])⟩
  cases vs with
  | nil => exact tup (by simp at hl; omega)
  | cons v vs =>
    cases vs with
    | nil =>
      cases us with
      | nil => exact h.elim
      | cons u us =>
        cases us with
        | nil => simpa [resVal, tupV] using h.1
        | cons _ _ => exact h.2.elim
    | cons v2 vs => exact tup (by simp at hl; omega)

theorem owVs_snd (f g : Nat → Nat) : ∀ (ss : List Sh) (vs : List V) (i j : Nat), (owVs f ss vs i).map (·.2) = (owVs g ss vs j).map (·.2)
  | [], _, _, _ => rfl
  | _ :: _, [], _, _ => rfl
  | s :: ss, v :: vs, i, j => by
    simp only [owVs, List.map_append, owVs_snd f g ss vs (i + 1) (j + 1)]
    congr 1
    cases s with
    | dat t agg own => cases own <;> rfl
    | ptr n off => rfl
theorem owOb_snd (ob : List (Option (List C))) (β β' β'' : Bn) : ∀ (os : List (List Sh)) (i : Nat), (∀ j, i ≤ j → j < i + os.length → ∃ k, β'.at j = some k) → (∀ j, i ≤ j → j < i + os.length → ∃ k, β''.at j = some k) → (owOb ob β β' os i).map (·.2) = (owOb ob β β'' os i).map (·.2)
  | [], _, _, _ => rfl
  | o :: os, i, h, h' => by
    obtain ⟨k, hk⟩ := h i (Nat.le_refl _) (by simp)
    obtain ⟨k', hk'⟩ := h' i (Nat.le_refl _) (by simp)
    have ih := owOb_snd ob β β' β'' os (i + 1) (fun j h1 h2 => h j (by omega) (by simp; omega)) (fun j h1 h2 => h' j (by omega) (by simp; omega))
    simp only [owOb, hk, hk']
    cases β.at i with
    | none => rfl
    | some k0 =>
      simp only [List.map_append, ih]
      rw [owVs_snd (idCell k) (idCell k') o _ 0 0]
theorem owVs_fst (f : Nat → Nat) : ∀ (ss : List Sh) (vs : List V) (i : Nat), vs.length = ss.length → (owVs f ss vs i).map (·.1) = owIds f ss i
  | [], _, _, _ => by simp [owVs, owIds]
  | _ :: _, [], _, h => by simp at h
  | s :: ss, v :: vs, i, h => by
    have ih := owVs_fst f ss vs (i + 1) (by simpa using h)
    cases s with
    | dat t agg own => cases own <;> simp [owVs, owV, owIds, ih]
    | ptr n off => simp [owVs, owV, owIds, ih]
theorem mVs_len : ∀ {ss : List Sh} {vs : List V} {β β' : Bn} {x : DenL ss}, mVs ss vs β = some (x, β') → vs.length = ss.length
  | [], [], _, _, _, _ => rfl
  | s :: ss, v :: vs, β, β', x, h => by
    simp only [mVs] at h
    split at h
    · split at h
      · rename_i h2; simp [mVs_len h2]
      · cases h
    · cases h
  | [], _ :: _, _, _, _, h => by simp [mVs] at h
  | _ :: _, [], _, _, _, h => by simp [mVs] at h
theorem owOb_fst {G : Gh} {w : World} (ob : List (Option (List C))) (β β' : Bn) : ∀ (os : List (List Sh)) (i : Nat), OwO G w ob β os i → (∀ j, i ≤ j → j < i + os.length → ∃ k, β'.at j = some k) →
    (∀ (j k : Nat) (o : List Sh) (cs : List C), os[j]? = some o → β.at (i + j) = some k → ob.getD k none = some cs → cs.length = o.length) → (owOb ob β β' os i).map (·.1) = owIdsO β' os i
  | [], _, _, _, _ => rfl
  | o :: os, i, ⟨⟨k, cs, b, cur, el, h1, h2, h3, h4, h5, h6⟩, h7⟩, hb, hl => by
    obtain ⟨k', hk'⟩ := hb i (Nat.le_refl _) (by simp)
    have ih := owOb_fst ob β β' os (i + 1) h7 (fun j h1 h2 => hb j (by omega) (by simp; omega)) fun j k o' cs' g1 g2 g3 => hl (j + 1) k o' cs' (by simpa using g1) (by rw [← g2]; congr 1; omega) g3
    have hlen := hl 0 k o cs rfl h1 h2
    simp only [owOb, owIdsO, h1, hk', h2, Option.getD_some, List.map_append, ih]
    rw [owVs_fst (idCell k') o (cs.map .one) 0 (by rw [List.length_map]; exact hlen)]
end

end Go.Proofs.Ytnppjkijhcampaa.Sym
