/- Soundness of contracts, last part. -/
import Derived.Test.YtnppjkijhcampaaSymP

namespace Go.Proofs.Ytnppjkijhcampaa.Sym
open Go
set_option linter.unusedSimpArgs false
set_option linter.unusedVariables false

def HcOk (P : Program) (f : Nat) (hc : (R : Type) → List V → Nat → AS → (Oc → AS → Option R) → Option R) : Prop :=
  ∀ (R : Type) (args : List V) (id : Nat) (A : AS) (K : Oc → AS → Option R) (r : R) (F : Fra) (G : Gh) (ts : Array Value) (cst : List (Array Value)) (w : World) (vals : Array Value),
    (∀ d, F.mu0 (id / 2 + d) = none) → hc R args id A K = some r → Rel F G A ts cst w → All2 (Rv G w) args vals.toList → FnOk P f ∧
    Calls P f vals w fun e w' => ∃ G' A' v u, Rel F G' A' ts cst w' ∧ Rv G' w' v u ∧
      ((e = .returned u ∧ ∃ ks, Unt G G' (inKs ks) w w' ∧ K (.ret v ks) A' = some r) ∨ (e = .panicked [{ v := u, recovered := false }] ∧ K (.pan v) A' = some r))

section
variable {P : Program} {tt : TT}

theorem mOb_len {G : Gh} {w : World} {A : AS} (hob : ObOk G w A) : ∀ {os : List (List Sh)} {i : Nat} {β β' : Bn} {x : DenO os}, mOb A.ob os i β = some (x, β') →
    ∀ βf : Bn, β'.le βf → ∀ (j k : Nat) (o : List Sh) (cs : List C), os[j]? = some o → βf.at (i + j) = some k → A.ob.getD k none = some cs → cs.length = o.length
  | [], i, β, β', x, h, βf, hf, j, k, o, cs, h1, _, _ => by simp at h1
  | o :: os, i, β, β', x, h, βf, hf, j, k, o', cs, h1, h2, h3 => by
    have hs := mOb_sound hob h
    simp only [mOb] at h
    split at h
    · rename_i k0 hk
      split at h
      · rename_i cs0 hcs
        split at h
        · rename_i x1 β1 g1
          split at h
          · rename_i xs β2 g2
            simp only [Option.some.injEq, Prod.mk.injEq] at h
            obtain ⟨_, rfl⟩ := h
            cases j with
            | zero =>
              simp only [List.getElem?_cons_zero, Option.some.injEq] at h1
              subst h1
              rw [Nat.add_zero, hf i k0 (hs.1.1 i k0 hk)] at h2
              cases h2
              rw [hcs] at h3
              cases h3
              have := mVs_len g1
              simpa using this
            | succ j => exact mOb_len hob g2 βf hf j k o' cs (by simpa using h1) (by rw [← h2]; congr 1; omega) h3
          · cases h
        · cases h
      · cases h
    · cases h

theorem panOf_sound : ∀ {p : Option (Nat × Ty)} {v : V} {x : PanDen p}, panOf p v = some x → panV p x = v ∧ ∃ T t d, v = .one (.ifc T t d)
  | some (T, t), v, x, h => by
    cases v with
    | one c =>
      cases c <;> simp only [panOf] at h <;> try cases h
      rename_i T' t' d
      split at h
      · rename_i e
        obtain ⟨rfl, rfl⟩ := e
        cases h
        exact ⟨rfl, _, _, _, rfl⟩
      · cases h
    | _ => simp [panOf] at h
  | none, v, x, _ => nomatch x

theorem unOb_get {α : Type} : ∀ (ks : List Nat) (ob : List (Option α)) (k : Nat) (x : α), (unOb ks ob)[k]? = some (some x) → ob[k]? = some (some x) ∧ k ∉ ks
  | [], _, _, _, h => ⟨h, by simp⟩
  | k0 :: ks, ob, k, x, h => by
    obtain ⟨h1, h2⟩ := unOb_get ks _ k x h
    rw [List.getElem?_set] at h1
    split at h1
    · split at h1 <;> cases h1
    · rename_i hne
      exact ⟨h1, by simp only [List.mem_cons, not_or]; exact ⟨Ne.symm hne, h2⟩⟩

/-! ### what data keep to -/
def Ty.wf : (t : Ty) → t.den → Prop
  | .int k, n => inR k n
  | .bool, _ => True
  | .str, s => byteR s ∧ s.length ≤ maxLen
  | .sl _ t, xs => xs.length ≤ maxLen ∧ ∀ x ∈ xs, t.wf x
  | .unit, _ => True
  | .prod a b, x => a.wf x.1 ∧ b.wf x.2
theorem Rt.wf {S : Nat → Nat → Prop} {w : World} : ∀ (t : Ty) (x : t.den) (cs : List Value), Rt S w t x cs → t.wf x
  | .int _, _, _, h => h.2
  | .bool, _, _, _ => trivial
  | .str, _, _, h => h.2
  | .sl _ t, xs, _, ⟨A, cap, _, h1, h2, h3⟩ => ⟨Nat.le_trans h1 h2, fun x hx => by
      obtain ⟨b, o, _, hh⟩ := h3 (List.ne_nil_of_mem hx)
      obtain ⟨i, hi⟩ := List.getElem?_of_mem hx
      obtain ⟨c, hc, _⟩ := hh i x hi
      exact Rt.wf t x c hc⟩
  | .unit, _, _, _ => trivial
  | .prod a b, x, _, ⟨c1, c2, _, h1, h2⟩ => ⟨Rt.wf a _ _ h1, Rt.wf b _ _ h2⟩
def Sh.wf : (s : Sh) → s.den → Prop
  | .dat t _ _, x => t.wf x
  | .ptr _ _, _ => True
def wfL : (ss : List Sh) → DenL ss → Prop
  | [], _ => True
  | s :: ss, x => s.wf x.1 ∧ wfL ss x.2
def wfO : (os : List (List Sh)) → DenO os → Prop
  | [], _ => True
  | o :: os, x => wfL o x.1 ∧ wfO os x.2
def Io.wf (io : Io) (d : io.In) : Prop := wfL io.args d.1 ∧ wfO io.obs d.2
theorem mV_wf {G : Gh} {w : World} {s : Sh} {v : V} {β β' : Bn} {x : s.den} {u : Value} (h : mV s v β = some (x, β')) (hv : Rv G w v u) : s.wf x := by
  cases s with
  | dat t agg own =>
    simp only [mV] at h
    split at h
    · rename_i y hy
      cases hb : (v.isAgg == agg) && (!own || !(ownOf v == 0)) with
      | false => rw [hb] at h; cases h
      | true =>
        rw [hb] at h
        simp only [cond_true, Option.some.injEq, Prod.mk.injEq] at h
        obtain ⟨rfl, _⟩ := h
        exact Rt.wf t _ _ (castV_sound hy hv)
    · cases h
  | ptr n off => trivial
theorem mVs_wf {G : Gh} {w : World} : ∀ {ss : List Sh} {vs : List V} {us : List Value} {β β' : Bn} {x : DenL ss}, mVs ss vs β = some (x, β') → All2 (Rv G w) vs us → wfL ss x
  | [], _, _, _, _, _, _, _ => trivial
  | s :: ss, [], _, _, _, _, h, _ => by simp [mVs] at h
  | s :: ss, v :: vs, [], _, _, _, _, h => h.elim
  | s :: ss, v :: vs, u :: us, β, β', x, h, hv => by
    simp only [mVs] at h
    split at h
    · rename_i y β1 g1
      split at h
      · rename_i ys β2 g2
        simp only [Option.some.injEq, Prod.mk.injEq] at h
        obtain ⟨rfl, _⟩ := h
        exact ⟨mV_wf g1 hv.1, mVs_wf g2 hv.2⟩
      · cases h
    · cases h
theorem mOb_wf {G : Gh} {w : World} {A : AS} (hob : ObOk G w A) : ∀ {os : List (List Sh)} {i : Nat} {β β' : Bn} {x : DenO os}, mOb A.ob os i β = some (x, β') → wfO os x
  | [], _, _, _, _, _ => trivial
  | o :: os, i, β, β', x, h => by
    simp only [mOb] at h
    split at h
    · rename_i k hk
      split at h
      · rename_i cs hcs
        split at h
        · rename_i x1 β1 g1
          split at h
          · rename_i xs β2 g2
            simp only [Option.some.injEq, Prod.mk.injEq] at h
            obtain ⟨rfl, _⟩ := h
            have hcs' : A.ob[k]? = some (some cs) := by
              rw [List.getD_eq_getElem?_getD] at hcs
              cases e : A.ob[k]? with
              | none => rw [e] at hcs; cases hcs
              | some y => rw [e] at hcs; simp only [Option.getD_some] at hcs; rw [hcs]
            obtain ⟨b, cur, el, _, _, hr⟩ := hob.cells hcs' (mVs_noItr g1)
            exact ⟨mVs_wf g1 (us := cur.toList) (hr.map_left _ fun a v h => h), mOb_wf hob g2⟩
          · cases h
        · cases h
      · cases h
    · cases h

theorem strip_itr (I Ks : List Nat) (x : List Int × Int) : C.strip I Ks (.itr x) = .itr x := by
  have : (Ks.any fun k => (C.itr x).hasKey k) = false := by simp [C.hasKey]
  unfold C.strip
  rw [this]
  rfl
/-- What is asked where a function's body has come to its end. -/
def EndP (P : Program) (fn : Func) (R : Ending → World → Prop) (ex : Ex) (G : Gh) (a : Act) (w : World) : Prop :=
  match ex with
  | .normal => ∃ v, (results fn a.tmps).run P w = .ok v w ∧ R (.returned v) w
  | .ret => ∃ v, (results fn a.tmps).run P w = .ok v w ∧ R (.returned v) w
  | .panic v => ∀ u, Rv G w v u → R (.panicked [{ v := u, recovered := false }]) w
  | .exit _ => False
/-- A function that comes to what its contract says, however that is shown. -/
def Comes' (P : Program) (tt : TT) (f : Nat) (fn : Func) (io : Io) (d : io.In) (out : io.Res) : Prop :=
  ∀ (F : Fra) (G : Gh) (cst : List (Array Value)) (w : World) (vals : Array Value) (R : Ending → World → Prop),
    Rel F G (io.start fn.ntmps d) (vals ++ Array.replicate (fn.ntmps - vals.size) undef) cst w → (∀ d, F.mu0 (io.obs.length + d) = none) →
    (∀ ex A' G' a' w', Rel F G' A' a'.tmps cst w' → io.fin tt fn ex A' = some out → EndP P fn R ex G' a' w') → Calls P f vals w R

theorem io_soundG (htt : TTok P tt) {f : Nat} {fn : Func} (hf : P.funcs[f]? = some fn)
    (hname : (fn.name == "runtime.NumGoroutine") = false) (io : Io)
    (Fn : io.In → Tr io.Res) (hF : ∀ d out, io.wf d → (Fn d).val = some out → Comes' P tt f fn io d out) (hbody : fn.body.isNone = false) : HcOk P f (ioHd io Fn) := by
  intro R args id A K r F G ts cst w vals hid h Rl hv
  refine ⟨⟨fn, hf, hname, hbody⟩, ?_⟩
  unfold ioHd at h
  split at h
  · cases h
  · rename_i a β1 h1
    split at h
    · cases h
    · rename_i o β h2
      generalize how : owVs (idTmp 0) io.args args 0 ++ owOb A.ob β (bnId io.obs.length 0) io.obs 0 = ow at h
      simp only at h
      cases hck : nodupB (ow.map (·.2)) && (nodupB (ow.map (·.1)) && io.ok) with
      | false => rw [hck] at h; cases h
      | true =>
        rw [hck] at h
        simp only [Bool.and_eq_true] at hck
        obtain ⟨hn2, hn1, hok⟩ := hck
        simp only [cond_true] at h
        obtain ⟨Rs, hinj, hlen, himp⟩ := start_rel Rl io h1 h2 hv how.symm hn1 hn2 hok fn.ntmps
        -- the body
        obtain ⟨out, hout, h⟩ := Tr.run_val h
        have hrun := hF _ _ ⟨mVs_wf h1 hv, mOb_wf Rl.ob h2⟩ hout
        have hkb : ∀ d, (inFra G w β ow).mu0 (io.obs.length + d) = none := by
          intro d
          show (inGh G β ow).mu _ = none
          simp only [inGh]
          cases hk : β.at (io.obs.length + d) with
          | none => rfl
          | some k => have := Bn.at_lt hk; omega
        have hI : ∀ p ∈ ow, p.2 ∈ ow.map (·.2) := fun p hp => List.mem_map.2 ⟨p, hp, rfl⟩
        refine hrun _ _ _ _ _ _ Rs hkb ?_
        intro ex A' G' a' w' R' hk
        -- the function has come to its end
        have ret : finRet tt io fn A' = some out → EndP P fn (fun e w' => ∃ G' A' v u, Rel F G' A' ts cst w' ∧ Rv G' w' v u ∧
            ((e = .returned u ∧ ∃ ks, Unt G G' (inKs ks) w w' ∧ K (.ret v ks) A' = some r) ∨ (e = .panicked [{ v := u, recovered := false }] ∧ K (.pan v) A' = some r))) .ret G' a' w' := by
          intro hfin
          unfold finRet at hfin
          split at hfin
          · rename_i rr βr g1
            split at hfin
            · rename_i o' βf g2
              cases hnd : nodupB ((owVs _root_.id io.res (fn.results.toList.map (resV tt A')) 0 ++ owOb A'.ob βf βf (io.obs ++ io.nobs) 0).map (·.2)) with
              | false => rw [hnd] at hfin; cases hfin
              | true =>
                rw [hnd] at hfin
                simp only [cond_true, Option.some.injEq] at hfin
                subst hfin
                simp only [AS.force_eq, V.force_eq] at h
                obtain ⟨us, hres, hus⟩ := run_results htt R' fn (mVs_ne_any g1)
                obtain ⟨⟨a1, a2, a3⟩, a4, a5⟩ := mVs_sound g1 hus
                obtain ⟨⟨b1, b2, b3⟩, b4, b5, b6⟩ := mOb_sound R'.ob g2
                have hfinj : βf.inj := b2 (a2 (bnId_inj _ _))
                have hfle : (bnId io.obs.length io.nobs.length).le βf := a1.trans b1
                have hflen : βf.length = io.obs.length + io.nobs.length := by rw [b3, a3]; simp [bnId]
                -- names
                generalize hbase : max (id / 2) A.ob.length = base at h
                generalize hβ' : β ++ (List.range io.nobs.length).map (fun j => some (base + j)) = β' at h
                generalize hids : owIds (fun i => id + 1048576 * i) io.res 0 ++ owIdsO β' (io.obs ++ io.nobs) 0 = ids at h
                cases hni : nodupB ids with
                | false => rw [hni] at h; cases h
                | true =>
                  rw [hni] at h
                  simp only [cond_true] at h
                  have hb1 : id / 2 ≤ base := by rw [← hbase]; exact Nat.le_max_left _ _
                  have hb2 : A.ob.length ≤ base := by rw [← hbase]; exact Nat.le_max_right _ _
                  have hβlt : ∀ j, j < io.obs.length → β'.at j = β.at j := by
                    intro j hj
                    rw [← hβ']
                    unfold Bn.at
                    rw [List.getD_eq_getElem?_getD, List.getD_eq_getElem?_getD, List.getElem?_append_left (by rw [hlen]; exact hj)]
                  have hβge : ∀ j, j < io.nobs.length → β'.at (io.obs.length + j) = some (base + j) := by
                    intro j hj
                    rw [← hβ']
                    unfold Bn.at
                    rw [List.getD_eq_getElem?_getD, List.getElem?_append_right (by rw [hlen]; omega), hlen, List.getElem?_map, Nat.add_sub_cancel_left, List.getElem?_range hj]
                    rfl
                  have hβall : ∀ j, 0 ≤ j → j < 0 + (io.obs ++ io.nobs).length → ∃ k, β'.at j = some k := by
                    intro j _ hj
                    rw [Nat.zero_add, List.length_append] at hj
                    rcases Nat.lt_or_ge j io.obs.length with h' | h'
                    · obtain ⟨k, cs, hk, _⟩ := himp j h'
                      exact ⟨k, by rw [hβlt j h', hk]⟩
                    · exact ⟨base + (j - io.obs.length), by have := hβge (j - io.obs.length) (by omega); rwa [show io.obs.length + (j - io.obs.length) = j by omega] at this⟩
                  have hfall : ∀ j, 0 ≤ j → j < 0 + (io.obs ++ io.nobs).length → ∃ k, βf.at j = some k := fun j h1 h2 => let ⟨k, _, hk, _⟩ := b6 j h1 h2; ⟨k, hk⟩
                  -- what is owned behind the call
                  generalize hOW : owVs (fun i => id + 1048576 * i) io.res (fn.results.toList.map (resV tt A')) 0 ++ owOb A'.ob βf β' (io.obs ++ io.nobs) 0 = OW
                  have hO2 : nodupB (OW.map (·.2)) = true := by
                    rw [← hOW, List.map_append, owVs_snd (fun i => id + 1048576 * i) _root_.id io.res _ 0 0, owOb_snd A'.ob βf β' βf (io.obs ++ io.nobs) 0 hβall hfall, ← List.map_append]
                    exact hnd
                  have hOfst : OW.map (·.1) = ids := by
                    rw [← hOW, List.map_append, owVs_fst _ _ _ _ (mVs_len g1), owOb_fst A'.ob βf β' _ _ (b5 βf (.refl _)) hβall (fun j k o cs e1 e2 e3 => mOb_len R'.ob g2 βf (.refl _) j k o cs e1 e2 e3), hids]
                  have hO1n : nodupB (OW.map (·.1)) = true := by rw [hOfst]; exact hni
                  have hO1 : ∀ p ∈ OW, p.1 ∈ ow.map (·.2) ++ ids := fun p hp => List.mem_append_right _ (by rw [← hOfst]; exact List.mem_map.2 ⟨p, hp, rfl⟩)
                  have hI' : ∀ p ∈ ow, p.2 ∈ ow.map (·.2) ++ ids := fun p hp => List.mem_append_left _ (hI p hp)
                  let m' : Nat → Option Nat := fun n => (βf.at n).bind G'.mu
                  let mn : Nat → Option Nat := fun j => m' (io.obs.length + j)
                  have hm'at : ∀ n b, m' n = some b → ∃ k, βf.at n = some k ∧ G'.mu k = some b := by
                    intro n b hb
                    simp only [m'] at hb
                    cases hk : βf.at n with
                    | none => rw [hk] at hb; cases hb
                    | some k => rw [hk] at hb; exact ⟨k, rfl, hb⟩
                  have hself : ∀ i, i < io.obs.length → βf.at i = some i := fun i hi => hfle i i (by rw [bnId_at, if_pos hi])
                  have hmn : ∀ j b, mn j = some b → (∀ i, (inGh G β ow).mu i ≠ some b) ∧ ∃ k, G'.mu k = some b := by
                    intro j b hb
                    obtain ⟨k, hk1, hk2⟩ := hm'at _ b hb
                    refine ⟨fun i hi => ?_, k, hk2⟩
                    have hi' := R'.gh.fix_ i b hi
                    have e := R'.gh.muI _ _ _ hk2 hi'
                    subst e
                    obtain ⟨k0, hk0, _⟩ := inGh_mu hi
                    have hil : k < io.obs.length := by rw [← hlen]; exact Bn.at_lt hk0
                    have := hfinj _ _ _ hk1 (hself k hil)
                    omega
                  have hmi : ∀ i j b, mn i = some b → mn j = some b → i = j := by
                    intro i j b hi hj
                    obtain ⟨k, hk1, hk2⟩ := hm'at _ b hi
                    obtain ⟨k', hk3, hk4⟩ := hm'at _ b hj
                    have e := R'.gh.muI _ _ _ hk2 hk4
                    subst e
                    have := hfinj _ _ _ hk1 hk3
                    omega
                  have hbs : ∀ d, F.mu0 (base + d) = none := fun d => by
                    have := hid (base - id / 2 + d)
                    rw [show id / 2 + (base - id / 2 + d) = base + d by omega] at this
                    exact this
                  have hgh := outGh_ok (I := ow.map (·.2) ++ ids) (OW := OW) (nn := io.nobs.length) Rl.gh R'.gh hI' hO2 hbs hmn hmi
                  have hval : ∀ c v, Rc G w c v → Rc (outGh G G' (ow.map (·.2) ++ ids) OW base io.nobs.length mn) w' (c.strip (ow.map (·.2) ++ ids) ((List.range io.nobs.length).map (base + ·))) v := fun c v hc => outGh_val Rl.gh R'.gh hI' hO1 hc
                  have hm' : ∀ n b, m' n = some b → ∃ k, β'.at n = some k ∧ (outGh G G' (ow.map (·.2) ++ ids) OW base io.nobs.length mn).mu k = some b := by
                    intro n b hb
                    obtain ⟨k, hk1, hk2⟩ := hm'at n b hb
                    have hnl : n < io.obs.length + io.nobs.length := by rw [← hflen]; exact Bn.at_lt hk1
                    rcases Nat.lt_or_ge n io.obs.length with hn | hn
                    · obtain ⟨k0, cs0, hk0, hcs0⟩ := himp n hn
                      obtain ⟨b0, o0, hm0, _, _⟩ := Rl.ob k0 cs0 hcs0
                      have hin : (inGh G β ow).mu n = some b0 := by simp only [inGh, hk0, Option.bind_some, hm0]
                      have hfx := R'.gh.fix_ n b0 hin
                      rw [hself n hn] at hk1
                      cases hk1
                      rw [hfx] at hk2
                      cases hk2
                      refine ⟨k0, by rw [hβlt n hn, hk0], ?_⟩
                      have hlt : k0 < A.ob.length := (List.getElem?_eq_some_iff.1 hcs0).1
                      simp only [outGh]
                      rw [if_neg (by omega)]
                      exact hm0
                    · refine ⟨base + (n - io.obs.length), ?_, ?_⟩
                      · have := hβge (n - io.obs.length) (by omega)
                        rw [show io.obs.length + (n - io.obs.length) = n by omega] at this
                        exact this
                      · simp only [outGh]
                        rw [if_pos (by omega)]
                        simp only [mn]
                        rw [show io.obs.length + (base + (n - io.obs.length) - base) = n by omega]
                        exact hb
                  have hfind : ∀ p ∈ OW, ∀ b l, G'.ow p.2 = some (b, l) → (outGh G G' (ow.map (·.2) ++ ids) OW base io.nobs.length mn).ow p.1 = some (b, l) := by
                    intro p hp b l hb
                    simp only [outGh, nodupB_find hO1n hp, hb]
                  have hokb : (io.obs ++ io.nobs).all (·.all Sh.cellB) = true := hok
                  have hobs : OwLO (outGh G G' (ow.map (·.2) ++ ids) OW base io.nobs.length mn) w' m' (fun j => match β'.at j with | some k => idCell k | none => _root_.id) (io.obs ++ io.nobs) 0 := by
                    refine (b5 βf (.refl _)).to (β' := β') m' _ 0 (fun j k hk => by simp only [m', hk, Option.bind_some]) (fun j h1 h2 => ?_) fun p hp b l hb => hfind p (by rw [← hOW]; exact List.mem_append_right _ hp) b l hb
                    obtain ⟨k, hk⟩ := hβall j h1 h2
                    exact ⟨k, hk, by rw [hk]⟩
                  have hro : OwL (outGh G G' (ow.map (·.2) ++ ids) OW base io.nobs.length mn) w' (fun i => id + 1048576 * i) io.res us 0 := a5.to _ 0 hus.length fun p hp b l hb => ⟨hfind p (by rw [← hOW]; exact List.mem_append_left _ hp) b l hb, rfl⟩
                  obtain ⟨c1, _, c3, _⟩ := mkVs_sound (G := outGh G G' (ow.map (·.2) ++ ids) OW base io.nobs.length mn) (β := β') (fun i => id + 1048576 * i) 0 (a4 βf b1) hm' hro
                  refine ⟨_, hres, _, _, _, _, ⟨?_, ?_, ?_, hgh⟩, resOf_sound c1 c3, .inl ⟨rfl, _, ⟨fun b o hs => ⟨R'.gh.sub b o hs, R'.gh.keep b o hs⟩, fun key b hx hb => ?_⟩, h⟩⟩
                  · exact Rl.tm.map_left _ fun a b h => Rv.map hval h
                  · exact Rl.stk.map_left _ fun a b h => h.map_left _ fun a b h => Rv.map hval h
                  · intro k cs hk
                    refine setOb_sound (G := outGh G G' (ow.map (·.2) ++ ids) OW base io.nobs.length mn) hm' 0 (b4 βf (.refl _)) hobs hokb ?_ k cs hk
                    intro k cs hk
                    rw [List.getElem?_append] at hk
                    split at hk
                    · obtain ⟨cs0, hcs0, rfl⟩ := AS.map_ob hk
                      obtain ⟨b, oo, hmk, hhk, hrk⟩ := Rl.ob k cs0 hcs0
                      have hlt : k < A.ob.length := (List.getElem?_eq_some_iff.1 hcs0).1
                      by_cases himpk : ∃ j, β.at j = some k
                      · obtain ⟨j, hj⟩ := himpk
                        have hjl : j < io.obs.length := by rw [← hlen]; exact Bn.at_lt hj
                        exact .inr ⟨j, Nat.zero_le _, by rw [List.length_append]; omega, by rw [hβlt j hjl]; exact hj⟩
                      · refine .inl ⟨b, oo, ?_, ?_, hrk.map hval (strip_itr _ _)⟩
                        · simp only [outGh]
                          rw [if_neg (by omega)]
                          exact hmk
                        · rw [outGh_heap Rl.gh R'.gh hmk, hhk]
                          intro j hj
                          obtain ⟨k', hk1, hk2⟩ := inGh_mu hj
                          have e := Rl.gh.muI _ _ _ hk2 hmk
                          subst e
                          exact himpk ⟨j, hk1⟩
                    · rw [List.getElem?_replicate] at hk
                      split at hk <;> cases hk
                  · have hx1 : key ∉ β.map (·.getD 0) ++ (List.range io.nobs.length).map (base + ·) := fun hin => hx fun l hl => by cases hl; exact hin
                    rw [List.mem_append, not_or] at hx1
                    refine ⟨?_, outGh_heap Rl.gh R'.gh hb fun j hj => ?_⟩
                    · simp only [outGh]
                      rw [if_neg]
                      · exact hb
                      · intro hr
                        exact hx1.2 (List.mem_map.2 ⟨key - base, List.mem_range.2 (by omega), by omega⟩)
                    · obtain ⟨k', hk1, hk2⟩ := inGh_mu hj
                      have e := Rl.gh.muI _ _ _ hk2 hb
                      subst e
                      exact hx1.1 (List.mem_map.2 ⟨some k', Bn.at_mem hk1, rfl⟩)
            · cases hfin
          · cases hfin
        cases ex with
        | normal => exact ret hk
        | ret => exact ret hk
        | exit i => simp [Io.fin] at hk
        | panic v =>
          intro u hu
          simp only [Io.fin] at hk
          split at hk
          · rename_i x hx
            simp only [Option.some.injEq] at hk
            subst hk
            simp only [AS.force_eq, V.force_eq] at h
            obtain ⟨hpv, T, t, d, rfl⟩ := panOf_sound hx
            have hgh := outGh_ok (I := ow.map (·.2)) (OW := []) (base := id / 2) (nn := 0) (mn := fun _ => none) Rl.gh R'.gh hI rfl hid (by simp) (by simp)
            have hval : ∀ c v, Rc G w c v → Rc (outGh G G' (ow.map (·.2)) [] (id / 2) 0 fun _ => none) w' (c.strip (ow.map (·.2)) []) v := fun c v hc => outGh_val (OW := []) (base := id / 2) (nn := 0) (mn := fun _ => none) Rl.gh R'.gh hI (by simp) hc
            refine ⟨_, _, _, u, ⟨?_, ?_, ?_, hgh⟩, ?_, .inr ⟨rfl, h⟩⟩
            · exact Rl.tm.map_left _ fun a b h => Rv.map hval h
            · exact Rl.stk.map_left _ fun a b h => h.map_left _ fun a b h => Rv.map hval h
            · intro k cs hk
              obtain ⟨hk1, hk2⟩ := unOb_get _ _ k cs hk
              obtain ⟨cs0, hcs0, rfl⟩ := AS.map_ob hk1
              obtain ⟨b, oo, hmk, hhk, hrk⟩ := Rl.ob k cs0 hcs0
              refine ⟨b, oo, ?_, ?_, hrk.map hval (strip_itr _ _)⟩
              · simp only [outGh]
                rw [if_neg (by omega)]
                exact hmk
              · rw [outGh_heap Rl.gh R'.gh hmk, hhk]
                intro j hj
                obtain ⟨k', hk3, hk4⟩ := inGh_mu hj
                have e := Rl.gh.muI _ _ _ hk4 hmk
                subst e
                exact hk2 (List.mem_map.2 ⟨some k', Bn.at_mem hk3, rfl⟩)
            · rw [hpv]
              obtain ⟨u', e, hu'⟩ := hu
              exact ⟨u', e, hu'⟩
          · cases hk
theorem io_sound (htt : TTok P tt) (hm : P.follows .mixedOrders = true) {hd : Hd} (hh : HdOk P hd) {okDraw : Dr} (hdr : DrawOk P tt okDraw) {f : Nat} {fn : Func} (hf : P.funcs[f]? = some fn)
    (hname : (fn.name == "runtime.NumGoroutine") = false) (io : Io) (lp : Lp) (hlp : ∀ c, fn.body = some c → ∀ e ∈ loopsOf (lrOf fn) c (lrOf fn) [], ∀ h, lp (firstId e.2.1) = some h → LhOk P io.obs.length e.2.1 h)
    (Fn : io.In → Tr io.Res) (hF : ∀ d out, io.wf d → (Fn d).val = some out → io.run tt hd okDraw lp fn d = some out) (hbody : fn.body.isNone = false) : HcOk P f (ioHd io Fn) := by
  refine io_soundG htt hf hname io Fn (fun d out hd hout F G cst w vals R Rl hkb hend => ?_) hbody
  obtain ⟨c, hc⟩ : ∃ c, fn.body = some c := by
    cases hb : fn.body with
    | none => rw [hb] at hbody; cases hbody
    | some c => exact ⟨c, rfl⟩
  have hrun := hF d out hd hout
  simp only [Io.run, hc] at hrun
  refine calls_of_wp hf hc (ev_sound htt hm hh hdr hkb c (hlp c hc) hrun Rl ?_)
  intro ex A' G' a' w' R' hdf hk
  have := hend ex A' G' a' w' R' hk
  cases ex with
  | normal => exact ⟨hdf, this⟩
  | ret => exact ⟨hdf, this⟩
  | exit i => exact this.elim
  | panic v => exact fun u hu => ⟨hdf, this u hu⟩

end

end Go.Proofs.Ytnppjkijhcampaa.Sym
