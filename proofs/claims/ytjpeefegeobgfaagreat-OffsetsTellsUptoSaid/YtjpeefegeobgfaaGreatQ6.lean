/- leatref10: list, field, Check, begin, Encode. -/
import Derived.Test.YtjpeefegeobgfaaGreatQ5

namespace Go.Proofs.YtjpeefegeobgfaaGreat.Sym
open Go
set_option linter.unusedSimpArgs false
set_option linter.unusedVariables false
noncomputable section
@[irreducible] noncomputable def spFw (f : Fd) : Nat := f.wt fun _ => 0
@[irreducible] noncomputable def spFws (l : List Fd) : Nat := Tre.wts (fun _ => 0) l
theorem spFw_eq (f : Fd) : spFw f = 1 + spFws f.kids := by unfold spFw spFws; exact Tre.wt_eq _ f
theorem spFw_mem {k : Fd} {l : List Fd} (h : k ∈ l) : spFw k ≤ spFws l := by unfold spFw spFws; exact Tre.wts_mem h
def spVers (ks : List Fd) : Nat → Int → Int → Bool
  | 0, _, _ => true
  | k + 1, v, hi => if v ≤ hi then (if (spHere ks v).length = 0 then false else spVers ks k (v + 1) hi) else true
def spNew (ks : List Fd) (s : List Int) : Bool := ks.all fun k => !decide (k.lab.1 = s)
def spDist (ks : List Fd) : Nat → List Fd → Bool
  | _, [] => true
  | j, f :: fs => spNew (ks.take j) f.lab.1 && spDist ks (j + 1) fs
mutual
def spFieldOk (d : Int) : Fd → Bool
  | .mk a ks => if a.1.length = 0 then false else if a.2.2.1 < 0 then false else if 3 < a.2.2.2.1 then false else if a.2.2.2.1 < a.2.2.1 then false else if a.2.1 < 1 then false else if 10 < a.2.1 then false
      else if a.2.1 < 9 then (if ks.length = 0 then true else false) else if spListOk (d + 1) ks = false then false else if spVers ks 5 a.2.2.1 a.2.2.2.1 = false then false else if a.2.1 = 10 then true else if ks.length = 1 then true else false
termination_by f => (SizeOf.sizeOf f, 0)
def spListOk (d : Int) (ks : List Fd) : Bool := if ks.length < 1 then false else if 16 < ks.length then false else if 8 < d then false else spDist ks 0 ks && spFieldsOk d ks
termination_by (SizeOf.sizeOf ks, 1)
def spFieldsOk (d : Int) : List Fd → Bool
  | [] => true
  | k :: ks => spFieldOk d k && spFieldsOk d ks
termination_by l => (SizeOf.sizeOf l, 0)
end
abbrev iovList : Io := ⟨[dFlds, dI], [], [], [dB], none⟩
def FvListN (n : Nat) (d : iovList.In) : Tr iovList.Res := .ite (decide (2 * spFws d.1.1 + 2 ≤ n) && (decide ((0 : Int) ≤ d.1.2.1) && decide (d.1.2.1 ≤ 1000))) (.ret (.ret ((spListOk d.1.2.1 d.1.1, ()), ()))) .no
def FvList (d : iovList.In) : Tr iovList.Res := .ite ((decide ((0 : Int) ≤ d.1.2.1) && decide (d.1.2.1 ≤ 1000))) (.ret (.ret ((spListOk d.1.2.1 d.1.1, ()), ()))) .no
abbrev iovField : Io := ⟨[dFld, dI], [], [], [dB], none⟩
def FvFieldN (n : Nat) (d : iovField.In) : Tr iovField.Res := .ite (decide (2 * spFw d.1.1 + 1 ≤ n) && (decide ((0 : Int) ≤ d.1.2.1) && decide (d.1.2.1 ≤ 999))) (.ret (.ret ((spFieldOk d.1.2.1 d.1.1, ()), ()))) .no
section
variable [Inhabited FuT]
abbrev csvList : List (Nat × Hc) := [(203, ioHd iovField (FvFieldN spFuel))]
def hdvList : Hd := hdT csvList
abbrev lovList_8 : Lo := ⟨⟨[.one (.hol (.sl 213 tFld)), .one (.hol (.int IntKind.i64)), .any, .any, .any, .one (.hol (.int IntKind.i64)), .one (.hol (.int IntKind.i64)), .any, .any, .any, .any, .any, .any, .any, .any, .any, .any, .any, .any, .any, .any, .any, .any, .any, .any, .any, .any, .any, .any, .any, .any, .any, .any, .any, .any, .any, .any, .any, .any, .any, .any, .any, .any, .any, .any, .any, .any, .any], []⟩, [(.ret, ⟨[.any, .any, .any, .any, .one (.hol .bool), .any, .any, .any, .any, .any, .any, .any, .any, .any, .any, .any, .any, .any, .any, .any, .any, .any, .any, .any, .any, .any, .any, .any, .any, .any, .any, .any, .any, .any, .any, .any, .any, .any, .any, .any, .any, .any, .any, .any, .any, .any, .any, .any], []⟩), (.exit 2, ⟨[.one (.hol (.sl 213 tFld)), .one (.hol (.int IntKind.i64)), .any, .any, .any, .one (.hol (.int IntKind.i64)), .any, .any, .any, .any, .any, .any, .any, .any, .any, .any, .any, .any, .any, .any, .any, .any, .any, .any, .any, .any, .any, .any, .any, .any, .any, .any, .any, .any, .any, .any, .any, .any, .any, .any, .any, .any, .any, .any, .any, .any, .any, .any], []⟩)]⟩
-- FvList_8 : lovList_8.st.den → Tr (DenX lovList_8.xs) | ((h5, (h6, (h7, (h8, ())))), ())
abbrev lovList_5 : Lo := ⟨⟨[.one (.hol (.sl 213 tFld)), .one (.hol (.int IntKind.i64)), .any, .any, .any, .one (.hol (.int IntKind.i64)), .any, .any, .any, .any, .any, .any, .any, .any, .any, .any, .any, .any, .any, .any, .any, .any, .any, .any, .any, .any, .any, .any, .any, .any, .any, .any, .any, .any, .any, .any, .any, .any, .any, .any, .any, .any, .any, .any, .any, .any, .any, .any], []⟩, [(.ret, ⟨[.any, .any, .any, .any, .one (.hol .bool), .any, .any, .any, .any, .any, .any, .any, .any, .any, .any, .any, .any, .any, .any, .any, .any, .any, .any, .any, .any, .any, .any, .any, .any, .any, .any, .any, .any, .any, .any, .any, .any, .any, .any, .any, .any, .any, .any, .any, .any, .any, .any, .any], []⟩), (.exit 0, ⟨[.any, .any, .any, .any, .any, .any, .any, .any, .any, .any, .any, .any, .any, .any, .any, .any, .any, .any, .any, .any, .any, .any, .any, .any, .any, .any, .any, .any, .any, .any, .any, .any, .any, .any, .any, .any, .any, .any, .any, .any, .any, .any, .any, .any, .any, .any, .any, .any], []⟩)]⟩
-- FvList_5 : lovList_5.st.den → Tr (DenX lovList_5.xs) | ((h2, (h3, (h4, ()))), ())
def FvList_8 (d : lovList_8.st.den) : Tr (DenX lovList_8.xs) :=
  .ite (decide (d.1.2.2.2.1 = 0) && (decide ((0 : Int) ≤ d.1.2.2.1) && decide (d.1.2.2.1 < (d.1.1.length : Int))))
    (.ite (spNew (d.1.1.take d.1.2.2.1.toNat) (d.1.1.getD d.1.2.2.1.toNat (Tre.mk ([], (0, (0, (0, ())))) [])).lab.1) (.ret (.pan (.ret ((), ((d.1.1, (d.1.2.1, (d.1.2.2.1, ()))), ()))))) (.ret (.ret ((), ((false, ()), ()))))) .no
def FvList_5 (d : lovList_5.st.den) : Tr (DenX lovList_5.xs) :=
  .ite (decide (d.1.2.2.1 = 0) && ((decide ((0 : Int) ≤ d.1.2.1) && decide (d.1.2.1 ≤ 999)) && (decide (2 * spFws d.1.1 + 1 ≤ spFuel) && decide (d.1.1.length ≤ 16))))
    (.ite (spDist d.1.1 0 d.1.1 && spFieldsOk d.1.2.1 d.1.1) (.ret (.pan (.ret ((), ((), ()))))) (.ret (.ret ((), ((false, ()), ()))))) .no
def lpvList : Lp := lpT [(5, loHd lovList_5 FvList_5), (8, loHd lovList_8 FvList_8)]
def stepvList_8 {R : Type} (h5 : List tFld.den) (h6 : Int) (h7 : Int) (h8 : Int) (next : List tFld.den → Int → Int → Int → Option R) (out : DenX lovList_8.xs → Option R) : Option R := bif decide (h8 < h7) then bif decide (0 ≤ h8) && decide (h8 < (↑h5.length : Int)) then bif decide (0 ≤ h7) && decide (h7 < (↑h5.length : Int)) then bif decide ((h5.getD h8.toNat (Tre.mk ([], 0, 0, 0, ()) [])).1.fst = (h5.getD h7.toNat (Tre.mk ([], 0, 0, 0, ()) [])).1.fst) then out (.ret ((), ((false, ()), ()))) else next (h5) (h6) (h7) (IntKind.i64.wrap (h8 + 1)) else none else none else out (.pan (.ret ((), ((h5, (h6, (h7, ()))), ()))))
def itvList_8 (n : Nat) (h5 : List tFld.den) (h6 : Int) (h7 : Int) (h8 : Int) : Option (DenX lovList_8.xs) := lpN tt hdvList dr lpvList 0 Go.Proofs.Tryz.f196 (subL Go.Proofs.Tryz.f196 (topL Go.Proofs.Tryz.f196 0) 0) n (lovList_8.st.mk' ((h5, (h6, (h7, (h8, ())))), ())) (decX lovList_8.xs)
theorem slvList_8 (n : Nat) (h5 : List tFld.den) (h6 : Int) (h7 : Int) (h8 : Int) : itvList_8 (n + 1) h5 h6 h7 h8 = stepvList_8 h5 h6 h7 h8 (itvList_8 n) some := by kernel_rfl
def stepvList_5 {R : Type} (h2 : List tFld.den) (h3 : Int) (h4 : Int) (next : List tFld.den → Int → Int → Option R) (out : DenX lovList_5.xs → Option R) : Option R := bif decide (h4 < (↑h2.length : Int)) then (FvList_8 ((h2, (h3, (h4, (0, ())))), ())).run fun y => match y with | .ret ((), ((x17, ()), ())) => (out (.ret ((), ((x17, ()), ())))) | .pan (.ret ((), ((x19, x20, x21, ()), ()))) => (bif decide (0 ≤ x21) && decide (x21 < (↑x19.length : Int)) then bif decide (2 * spFw (Tre.mk (x19.getD x21.toNat (Tre.mk ([], 0, 0, 0, ()) [])).1 (x19.getD x21.toNat (Tre.mk ([], 0, 0, 0, ()) [])).2) + 1 ≤ spFuel) && (decide (0 ≤ x20) && decide (x20 ≤ 999)) then bif !spFieldOk x20 (Tre.mk (x19.getD x21.toNat (Tre.mk ([], 0, 0, 0, ()) [])).1 (x19.getD x21.toNat (Tre.mk ([], 0, 0, 0, ()) [])).2) then out (.ret ((), ((false, ()), ()))) else next (x19) (x20) (IntKind.i64.wrap (x21 + 1)) else none else none) else out (.pan (.ret ((), ((), ()))))
def itvList_5 (n : Nat) (h2 : List tFld.den) (h3 : Int) (h4 : Int) : Option (DenX lovList_5.xs) := lpN tt hdvList dr lpvList 0 Go.Proofs.Tryz.f196 (topL Go.Proofs.Tryz.f196 0) n (lovList_5.st.mk' ((h2, (h3, (h4, ()))), ())) (decX lovList_5.xs)
theorem slvList_5 (n : Nat) (h2 : List tFld.den) (h3 : Int) (h4 : Int) : itvList_5 (n + 1) h2 h3 h4 = stepvList_5 h2 h3 h4 (itvList_5 n) some := by kernel_rfl
theorem loopvList_8 {fs : List Fd} (d : Int) {i : Nat} (hi : i < fs.length) (hl : fs.length ≤ maxLen) : ∀ (k j : Nat), i < j + k → j ≤ i → spNew (fs.take j) (fs[i]).lab.1 = true →
    itvList_8 k fs d i j = if spNew (fs.take i) (fs[i]).lab.1 = true then some (.pan (.ret ((), ((fs, (d, ((i : Int), ()))), ())))) else some (.ret ((), ((false, ()), ()))) := by
  intro k
  induction k with
  | zero => intro j h1 h2; omega
  | succ k ih =>
    intro j h1 h2 h3
    rw [slvList_8]
    unfold stepvList_8
    by_cases hj : j < i
    · have hjl : j < fs.length := by omega
      refine (bif_true (decide_eq_true (show (j : Int) < (i : Int) by omega)) _ _).trans ?_
      refine (bif_true (by simp; omega) _ _).trans ?_
      refine (bif_true (by simp; omega) _ _).trans ?_
      rw [wrap_succ hjl hl]
      simp only [Int.toNat_natCast, getD_lt hi, getD_lt hjl]
      by_cases he : (fs[j]).lab.1 = (fs[i]).lab.1
      · refine (bif_true (decide_eq_true he) _ _).trans ?_
        rw [if_neg]
        intro h
        have hm : fs[j] ∈ fs.take i := by rw [List.mem_take_iff_getElem]; exact ⟨j, by omega, rfl⟩
        have := List.all_eq_true.1 h fs[j] hm
        simp [he] at this
      · refine (bif_false (decide_eq_false he) _ _).trans ?_
        refine ih (j + 1) (by omega) (by omega) ?_
        rw [List.take_succ_eq_append_getElem hjl]
        unfold spNew at h3 ⊢
        rw [List.all_append, h3]
        simp [he]
    · refine (bif_false (decide_eq_false (show ¬ (j : Int) < (i : Int) by omega)) _ _).trans ?_
      have : j = i := by omega
      rw [if_pos (this ▸ h3)]
theorem loopvList_5 {fs : List Fd} {d : Int} (hd : 0 ≤ d ∧ d ≤ 999) (hf : 2 * spFws fs + 1 ≤ spFuel) (hl : fs.length ≤ 16) : ∀ (k j : Nat), fs.length < j + k → j ≤ fs.length →
    itvList_5 k fs d j = if (spDist fs j (fs.drop j) && spFieldsOk d (fs.drop j)) = true then some (.pan (.ret ((), ((), ())))) else some (.ret ((), ((false, ()), ()))) := by
  intro k
  induction k with
  | zero => intro j h1 h2; omega
  | succ k ih =>
    intro j h1 h2
    rw [slvList_5]
    unfold stepvList_5
    by_cases hj : j < fs.length
    · refine (bif_true (decide_eq_true (show (j : Int) < (fs.length : Int) by omega)) _ _).trans ?_
      have hdr : fs.drop j = fs[j] :: fs.drop (j + 1) := List.drop_eq_getElem_cons hj
      have hmem := spFw_mem (List.getElem_mem hj)
      have ih' := ih (j + 1) (by omega) (by omega)
      rw [hdr, spDist, spFieldsOk]
      have hgd : fs.getD ((j : Int)).toNat (Tre.mk (([] : List Int), ((0 : Int), ((0 : Int), ((0 : Int), ())))) ([] : List Fd)) = fs[j] := by simp only [Int.toNat_natCast]; exact getD_lt hj
      have c8 : (decide ((0 : Int) = 0) && (decide ((0 : Int) ≤ (j : Int)) && decide ((j : Int) < (fs.length : Int)))) = true := by simp; omega
      have e8 : FvList_8 ((fs, (d, ((j : Int), ((0 : Int), ())))), ()) = .ite true (.ite (spNew (fs.take j) (fs[j]).lab.1) (.ret (.pan (.ret ((), ((fs, (d, ((j : Int), ()))), ()))))) (.ret (.ret ((), ((false, ()), ()))))) .no := by
        unfold FvList_8
        rw [← c8]
        show Tr.ite _ (Tr.ite (spNew (fs.take ((j : Int)).toNat) (fs.getD ((j : Int)).toNat _).lab.1) _ _) _ = _
        rw [hgd]; simp only [Int.toNat_natCast]
      rw [e8]
      by_cases hn : spNew (fs.take j) (fs[j]).lab.1 = true
      · rw [hn]
        show (bif decide (0 ≤ (j : Int)) && decide ((j : Int) < (fs.length : Int)) then _ else none) = _
        refine (bif_true (by simp; omega) _ _).trans ?_
        rw [wrap_i64 (n := (j : Int) + 1) (by omega) (by omega)]
        simp only [Int.toNat_natCast, getD_lt hj]
        generalize fs[j] = f0 at hmem ⊢
        obtain ⟨fl, fk⟩ := f0
        refine (bif_true (show (decide (2 * spFw (Tre.mk fl fk) + 1 ≤ spFuel) && (decide ((0 : Int) ≤ d) && decide (d ≤ 999))) = true by simp; omega) _ _).trans ?_
        by_cases hv : spFieldOk d (Tre.mk fl fk) = true
        · refine (bif_false (show (!spFieldOk d (Tre.mk fl fk)) = false by rw [hv]; rfl) _ _).trans ?_
          refine ih'.trans ?_
          rw [hv]; simp
        · refine (bif_true (show (!spFieldOk d (Tre.mk fl fk)) = true by simpa using hv) _ _).trans ?_
          simp [hv]
      · have hn : spNew (fs.take j) (fs[j]).lab.1 = false := by simpa using hn
        rw [hn]
        rfl
    · refine (bif_false (decide_eq_false (show ¬ (j : Int) < (fs.length : Int) by omega)) _ _).trans ?_
      rw [List.drop_of_length_le (by omega), spDist, spFieldsOk]
      rfl
def bodyvList (a0 : List tFld.den) (a1 : Int) : Option iovList.Res := bif decide ((↑a0.length : Int) < 1) then some (Out.ret ((false, ()), ())) else bif decide (16 < (↑a0.length : Int)) then some (Out.ret ((false, ()), ())) else bif decide (8 < a1) then some (Out.ret ((false, ()), ())) else (FvList_5 ((a0, (a1, (0, ()))), ())).run fun y => match y with | .ret ((), ((x26, ()), ())) => (some (Out.ret ((x26, ()), ()))) | .pan (.ret ((), ((), ()))) => (some (Out.ret ((true, ()), ())))
theorem runvList (a0 : List tFld.den) (a1 : Int) : Io.run tt hdvList dr lpvList iovList Go.Proofs.Tryz.f196 ((a0, a1, ()), ()) = bodyvList a0 a1 := by kernel_rfl
theorem okvListS (rvField : HcOk prog 203 (ioHd iovField (FvFieldN spFuel))) : HcOk prog 196 (ioHd iovList (FvListN (spFuel + 1))) := by
  refine fn_sound (n := 400) hm (cs := csvList) (.cons rvField .nil) (lp := lpvList) (fn := Go.Proofs.Tryz.f196) (by kernel_rfl) (by kernel_rfl) (by kernel_rfl) iovList (.step (h0 := loHd lovList_5 FvList_5) (by kernel_rfl) (loop_sound (n := 400) hm (cs := csvList) (.cons rvField .nil) (lp := lpvList) (fn := Go.Proofs.Tryz.f196) (.step (h0 := loHd lovList_8 FvList_8) (by kernel_rfl) (loop_sound (n := 400) hm (cs := csvList) (.cons rvField .nil) (lp := lpvList) (fn := Go.Proofs.Tryz.f196) (.done (by kernel_rfl)) lovList_8 FvList_8 ?_) (.done (by kernel_rfl))) lovList_5 FvList_5 ?_) (.done (by kernel_rfl))) (FvListN (spFuel + 1)) ?_
  · rintro ⟨⟨(fs : List Fd), (d : Int), (i : Int), (j : Int), ⟨⟩⟩, ⟨⟩⟩ y hw hy
    obtain ⟨hg, hy⟩ := Tr.guard hy
    simp only [Bool.and_eq_true, decide_eq_true_eq] at hg
    obtain ⟨h1, h2, h3⟩ := hg
    have h1 : j = 0 := h1
    have h2 : 0 ≤ i := h2
    have h3 : i < (fs.length : Int) := h3
    subst h1
    obtain ⟨i, rfl⟩ := toNat_of h2
    have hi : i < fs.length := by omega
    refine ⟨i + 1, (loopvList_8 d hi hw.1.1.1 (i + 1) 0 (by omega) (by omega) (by simp [spNew])).trans ?_⟩
    rw [← hy]
    have hgd : fs.getD ((i : Int)).toNat (Tre.mk (([] : List Int), ((0 : Int), ((0 : Int), ((0 : Int), ())))) ([] : List Fd)) = fs[i] := by simp only [Int.toNat_natCast]; exact getD_lt hi
    show _ = (Tr.ite (spNew (fs.take ((i : Int)).toNat) (fs.getD ((i : Int)).toNat _).lab.1) _ _).val
    rw [hgd]
    simp only [Int.toNat_natCast]
    by_cases h : spNew (fs.take i) (fs[i]).lab.1 = true
    · rw [if_pos h]; exact (bif_true h _ _).symm
    · rw [if_neg h]; exact (bif_false (by simpa using h) _ _).symm
  · rintro ⟨⟨(fs : List Fd), (d : Int), (i : Int), ⟨⟩⟩, ⟨⟩⟩ y hw hy
    obtain ⟨hg, hy⟩ := Tr.guard hy
    simp only [Bool.and_eq_true, decide_eq_true_eq] at hg
    obtain ⟨h1, ⟨h2, h3⟩, h4, h5⟩ := hg
    have h1 : i = 0 := h1
    have h2 : 0 ≤ d := h2
    have h3 : d ≤ 999 := h3
    have h4 : 2 * spFws fs + 1 ≤ spFuel := h4
    have h5 : fs.length ≤ 16 := h5
    subst h1
    refine ⟨fs.length + 1, (loopvList_5 ⟨h2, h3⟩ h4 h5 (fs.length + 1) 0 (by omega) (by omega)).trans ?_⟩
    rw [← hy, List.drop_zero]
    by_cases h : (spDist fs 0 fs && spFieldsOk d fs) = true
    · rw [if_pos h]; exact (bif_true h _ _).symm
    · rw [if_neg h]; exact (bif_false (by simpa using h) _ _).symm
  · rintro ⟨⟨(fs : List Fd), (d : Int), ⟨⟩⟩, ⟨⟩⟩ out hw ho
    obtain ⟨hg, ho⟩ := Tr.guard ho
    simp only [Bool.and_eq_true, decide_eq_true_eq] at hg
    obtain ⟨hk, hd1, hd2⟩ := hg
    have hk : 2 * spFws fs + 2 ≤ spFuel + 1 := hk
    have hd1 : 0 ≤ d := hd1
    have hd2 : d ≤ 1000 := hd2
    cases ho
    refine (runvList fs d).trans ?_
    unfold bodyvList
    show _ = some (Out.ret ((spListOk d fs, ()), ()))
    rw [spListOk]
    by_cases h1 : fs.length < 1
    · rw [if_pos h1]
      exact bif_true (decide_eq_true (by omega)) _ _
    rw [if_neg h1]
    refine (bif_false (decide_eq_false (by omega)) _ _).trans ?_
    by_cases h2 : 16 < fs.length
    · rw [if_pos h2]
      exact bif_true (decide_eq_true (by omega)) _ _
    rw [if_neg h2]
    refine (bif_false (decide_eq_false (by omega)) _ _).trans ?_
    by_cases h3 : 8 < d
    · rw [if_pos h3]
      exact bif_true (decide_eq_true h3) _ _
    rw [if_neg h3]
    refine (bif_false (decide_eq_false h3) _ _).trans ?_
    have c1 : (decide ((0 : Int) = 0) && ((decide ((0 : Int) ≤ d) && decide (d ≤ 999)) && (decide (2 * spFws fs + 1 ≤ spFuel) && decide (fs.length ≤ 16)))) = true := by simp; omega
    refine (bif_true c1 _ _).trans ?_
    by_cases h : (spDist fs 0 fs && spFieldsOk d fs) = true
    · rw [h]; rfl
    · have h : (spDist fs 0 fs && spFieldsOk d fs) = false := by simpa using h
      rw [h]; rfl
end
section
variable [Inhabited FuT]
abbrev csvField : List (Nat × Hc) := [(196, ioHd iovList (FvListN spFuel)), (187, ioHd iotHere FtHere)]
def hdvField : Hd := hdT csvField
abbrev lovField_9 : Lo := ⟨⟨[.any, .any, .one (.ptr 2 0), .any, .any, .one (.hol (.int IntKind.i64)), .any, .any, .any, .any, .any, .any, .any, .any, .any, .any, .any, .any, .any, .any, .any, .any, .any, .any, .any, .any, .any, .any, .any, .any, .any, .any, .any, .any, .any, .any, .any, .any, .any, .any, .any, .any, .any, .any, .any, .any, .any, .any, .any, .any, .any, .any, .any, .any, .any, .any, .any, .any, .any, .any, .any, .any, .any, .any, .any, .any, .any, .any, .any, .any, .any, .any, .any], [none, none, some [.hol .str, .hol (.int IntKind.i64), .hol (.int IntKind.i64), .hol (.int IntKind.i64), .hol (.sl 213 tFld)]]⟩, [(.ret, ⟨[.any, .any, .any, .any, .one (.hol .bool), .any, .any, .any, .any, .any, .any, .any, .any, .any, .any, .any, .any, .any, .any, .any, .any, .any, .any, .any, .any, .any, .any, .any, .any, .any, .any, .any, .any, .any, .any, .any, .any, .any, .any, .any, .any, .any, .any, .any, .any, .any, .any, .any, .any, .any, .any, .any, .any, .any, .any, .any, .any, .any, .any, .any, .any, .any, .any, .any, .any, .any, .any, .any, .any, .any, .any, .any, .any], []⟩), (.exit 0, ⟨[.any, .any, .one (.ptr 2 0), .any, .any, .any, .any, .any, .any, .any, .any, .any, .any, .any, .any, .any, .any, .any, .any, .any, .any, .any, .any, .any, .any, .any, .any, .any, .any, .any, .any, .any, .any, .any, .any, .any, .any, .any, .any, .any, .any, .any, .any, .any, .any, .any, .any, .any, .any, .any, .any, .any, .any, .any, .any, .any, .any, .any, .any, .any, .any, .any, .any, .any, .any, .any, .any, .any, .any, .any, .any, .any, .any], [none, none, some [.hol .str, .hol (.int IntKind.i64), .hol (.int IntKind.i64), .hol (.int IntKind.i64), .hol (.sl 213 tFld)]]⟩)]⟩
-- FvField_9 : lovField_9.st.den → Tr (DenX lovField_9.xs) | ((h2, ()), ((h3, (h4, (h5, (h6, (h7, ()))))), ()))
def FvField_9 (d : lovField_9.st.den) : Tr (DenX lovField_9.xs) :=
  .ite (((decide ((0 : Int) ≤ d.1.1) && decide (d.1.1 ≤ 4)) && decide (d.2.1.2.2.2.1 ≤ 3)) && decide (d.2.1.2.2.2.2.1.length ≤ 16))
    (.ite (spVers d.2.1.2.2.2.2.1 5 d.1.1 d.2.1.2.2.2.1) (.ret (.pan (.ret ((), ((), (d.2.1, ())))))) (.ret (.ret ((), ((false, ()), ()))))) .no
def lpvField : Lp := lpT [(9, loHd lovField_9 FvField_9)]
def stepvField_9 {R : Type} (h2 : Int) (h3 : List Int) (h4 : Int) (h5 : Int) (h6 : Int) (h7 : List (Fd)) (next : Int → List Int → Int → Int → Int → List (Fd) → Option R) (out : DenX lovField_9.xs → Option R) : Option R := bif decide (h2 ≤ h6) then bif decide (h7.length ≤ 4294967296) then bif (↑(spHere h7 h2).length : Int) == 0 then out (.ret ((), ((false, ()), ()))) else next (IntKind.i64.wrap (h2 + 1)) (h3) (h4) (h5) (h6) (h7) else none else out (.pan (.ret ((), ((), ((h3, (h4, (h5, (h6, (h7, ()))))), ())))))
def itvField_9 (n : Nat) (h2 : Int) (h3 : List Int) (h4 : Int) (h5 : Int) (h6 : Int) (h7 : List (Fd)) : Option (DenX lovField_9.xs) := lpN tt hdvField dr lpvField 0 Go.Proofs.Tryz.f203 (topL Go.Proofs.Tryz.f203 0) n (lovField_9.st.mk' ((h2, ()), ((h3, (h4, (h5, (h6, (h7, ()))))), ()))) (decX lovField_9.xs)
theorem slvField_9 (n : Nat) (h2 : Int) (h3 : List Int) (h4 : Int) (h5 : Int) (h6 : Int) (h7 : List (Fd)) : itvField_9 (n + 1) h2 h3 h4 h5 h6 h7 = stepvField_9 h2 h3 h4 h5 h6 h7 (itvField_9 n) some := by kernel_rfl
theorem loopvField {ks : List Fd} (hl : ks.length ≤ 16) (nm : List Int) (a b c : Int) (hc : c ≤ 3) : ∀ (k : Nat) (v : Int), 0 ≤ v → v ≤ 4 → 4 < v + k →
    itvField_9 k v nm a b c ks = if spVers ks k v c = true then some (.pan (.ret ((), ((), ((nm, (a, (b, (c, (ks, ()))))), ()))))) else some (.ret ((), ((false, ()), ()))) := by
  intro k
  induction k with
  | zero => intro v h0 h1 h2; omega
  | succ k ih =>
    intro v h0 h1 h2
    rw [slvField_9]
    unfold stepvField_9
    rw [spVers]
    by_cases hv : v ≤ c
    · refine (bif_true (decide_eq_true hv) _ _).trans ?_
      refine (bif_true (decide_eq_true (by omega)) _ _).trans ?_
      rw [if_pos hv, wrap_i64 (n := v + 1) (by omega) (by omega)]
      by_cases h : (spHere ks v).length = 0
      · refine (bif_true (by simp [h]) _ _).trans ?_
        rw [if_pos h]; rfl
      · refine (bif_false (by simpa using h) _ _).trans ?_
        rw [if_neg h]
        exact ih (v + 1) (by omega) (by omega) (by omega)
    · refine (bif_false (decide_eq_false hv) _ _).trans ?_
      rw [if_neg hv]; rfl
def bodyvField (a0 : Fd) (a1 : Int) : Option iovField.Res := bif (↑(List.length a0.1.fst) : Int) == 0 then some (Out.ret ((false, ()), ())) else bif decide (a0.1.snd.snd.fst < 0) then some (Out.ret ((false, ()), ())) else bif decide (3 < a0.1.snd.snd.snd.fst) then some (Out.ret ((false, ()), ())) else bif decide (a0.1.snd.snd.snd.fst < a0.1.snd.snd.fst) then some (Out.ret ((false, ()), ())) else bif decide (a0.1.snd.fst < 1) then some (Out.ret ((false, ()), ())) else bif decide (10 < a0.1.snd.fst) then some (Out.ret ((false, ()), ())) else bif decide (a0.1.snd.fst < 9) then some (Out.ret (((↑a0.2.length : Int) == 0, ()), ())) else bif decide (2 * spFws a0.2 + 2 ≤ spFuel) && (decide (0 ≤ IntKind.i64.wrap (a1 + 1)) && decide (IntKind.i64.wrap (a1 + 1) ≤ 1000)) then bif !spListOk (IntKind.i64.wrap (a1 + 1)) a0.2 then some (Out.ret ((false, ()), ())) else (FvField_9 ((a0.1.snd.snd.fst, ()), ((a0.1.fst, (a0.1.snd.fst, (a0.1.snd.snd.fst, (a0.1.snd.snd.snd.fst, (a0.2, ()))))), ()))).run fun y => match y with | .ret ((), ((x20, ()), ())) => (some (Out.ret ((x20, ()), ()))) | .pan (.ret ((), ((), (x21, x22, x23, x24, x25, ()), ()))) => (bif x22 == 10 then some (Out.ret ((true, ()), ())) else some (Out.ret (((↑x25.length : Int) == 1, ()), ()))) else none
theorem runvField (a0 : Fd) (a1 : Int) : Io.run tt hdvField dr lpvField iovField Go.Proofs.Tryz.f203 ((a0, a1, ()), ()) = bodyvField a0 a1 := by kernel_rfl
theorem okvFieldS (rvList : HcOk prog 196 (ioHd iovList (FvListN spFuel))) : HcOk prog 203 (ioHd iovField (FvFieldN (spFuel + 1))) := by
  refine fn_sound (n := 400) hm (cs := csvField) (.cons rvList (.cons oktHere .nil)) (lp := lpvField) (fn := Go.Proofs.Tryz.f203) (by kernel_rfl) (by kernel_rfl) (by kernel_rfl) iovField (.step (h0 := loHd lovField_9 FvField_9) (by kernel_rfl) (loop_sound (n := 400) hm (cs := csvField) (.cons rvList (.cons oktHere .nil)) (lp := lpvField) (fn := Go.Proofs.Tryz.f203) (.done (by kernel_rfl)) lovField_9 FvField_9 ?_) (.done (by kernel_rfl))) (FvFieldN (spFuel + 1)) ?_
  · rintro ⟨⟨(v : Int), ⟨⟩⟩, ⟨⟨(nm : List Int), (a : Int), (b : Int), (c : Int), (ks : List Fd), ⟨⟩⟩, ⟨⟩⟩⟩ y hw hy
    obtain ⟨hg, hy⟩ := Tr.guard hy
    simp only [Bool.and_eq_true, decide_eq_true_eq] at hg
    obtain ⟨⟨⟨h1, h4⟩, h2⟩, h3⟩ := hg
    have h1 : 0 ≤ v := h1
    have h4 : v ≤ 4 := h4
    have h2 : c ≤ 3 := h2
    have h3 : ks.length ≤ 16 := h3
    refine ⟨5, (loopvField h3 nm a b c h2 5 v h1 h4 (by omega)).trans ?_⟩
    rw [← hy]
    by_cases h : spVers ks 5 v c = true
    · rw [if_pos h]; exact (bif_true h _ _).symm
    · rw [if_neg h]; exact (bif_false (by simpa using h) _ _).symm
  · rintro ⟨⟨(f : Fd), (d : Int), ⟨⟩⟩, ⟨⟩⟩ out hw ho
    obtain ⟨hg, ho⟩ := Tr.guard ho
    simp only [Bool.and_eq_true, decide_eq_true_eq] at hg
    obtain ⟨hk, hd1, hd2⟩ := hg
    have hk : 2 * spFw f + 1 ≤ spFuel + 1 := hk
    have hd1 : 0 ≤ d := hd1
    have hd2 : d ≤ 999 := hd2
    cases ho
    refine (runvField f d).trans ?_
    unfold bodyvField
    show _ = some (Out.ret ((spFieldOk d f, ()), ()))
    obtain ⟨⟨(nm : List Int), (k' : Int), (lo : Int), (hi : Int), ⟨⟩⟩, (ks : List Fd)⟩ := f
    have hwf := spFw_eq (Tre.mk (nm, (k', (lo, (hi, ())))) ks)
    have hwf : spFw (Tre.mk (nm, (k', (lo, (hi, ())))) ks) = 1 + spFws ks := hwf
    have hk : 2 * (1 + spFws ks) + 1 ≤ spFuel + 1 := by rw [← hwf]; exact hk
    rw [spFieldOk, wrap_i64 (n := d + 1) (by omega) (by omega)]
    simp only
    by_cases h1 : List.length nm = 0
    · rw [if_pos h1]
      exact bif_true (by simp [h1]) _ _
    rw [if_neg h1]
    refine (bif_false (by simpa using h1) _ _).trans ?_
    by_cases h2 : lo < (0 : Int)
    · rw [if_pos h2]
      exact bif_true (decide_eq_true h2) _ _
    rw [if_neg h2]
    refine (bif_false (decide_eq_false h2) _ _).trans ?_
    by_cases h3 : (3 : Int) < hi
    · rw [if_pos h3]
      exact bif_true (decide_eq_true h3) _ _
    rw [if_neg h3]
    refine (bif_false (decide_eq_false h3) _ _).trans ?_
    by_cases h4 : (hi : Int) < lo
    · rw [if_pos h4]
      exact bif_true (decide_eq_true h4) _ _
    rw [if_neg h4]
    refine (bif_false (decide_eq_false h4) _ _).trans ?_
    by_cases h5 : k' < (1 : Int)
    · rw [if_pos h5]
      exact bif_true (decide_eq_true h5) _ _
    rw [if_neg h5]
    refine (bif_false (decide_eq_false h5) _ _).trans ?_
    by_cases h6 : (10 : Int) < k'
    · rw [if_pos h6]
      exact bif_true (decide_eq_true h6) _ _
    rw [if_neg h6]
    refine (bif_false (decide_eq_false h6) _ _).trans ?_
    by_cases h7 : k' < (9 : Int)
    · rw [if_pos h7]
      refine (bif_true (decide_eq_true h7) _ _).trans ?_
      by_cases h8 : ks.length = 0
      · rw [if_pos h8, h8]; rfl
      · rw [if_neg h8]
        exact congrArg (fun b : Bool => some (Out.ret ((b, ()), ()))) (by simpa using h8)
    rw [if_neg h7]
    refine (bif_false (decide_eq_false h7) _ _).trans ?_
    refine (bif_true (show (decide (2 * spFws ks + 2 ≤ spFuel) && (decide ((0 : Int) ≤ d + 1) && decide (d + 1 ≤ 1000))) = true by simp; omega) _ _).trans ?_
    by_cases h8 : spListOk (d + 1) ks = false
    · rw [if_pos h8]
      exact bif_true (by rw [h8]; rfl) _ _
    rw [if_neg h8]
    refine (bif_false (by simpa using h8) _ _).trans ?_
    have h8 : spListOk (d + 1) ks = true := by simpa using h8
    have hl : ks.length ≤ 16 := by
      rw [spListOk] at h8
      split at h8
      · cases h8
      · split at h8
        · cases h8
        · omega
    have c1 : (((decide ((0 : Int) ≤ lo) && decide (lo ≤ 4)) && decide (hi ≤ (3 : Int))) && decide (ks.length ≤ 16)) = true := by simp [hl]; omega
    refine (bif_true c1 _ _).trans ?_
    by_cases h9 : spVers ks 5 lo hi = true
    · refine (bif_true h9 _ _).trans ?_
      rw [if_neg (by rw [h9]; decide)]
      show (bif k' == 10 then _ else _) = _
      by_cases h10 : k' = 10
      · rw [if_pos h10]
        exact bif_true (by simpa using h10) _ _
      · rw [if_neg h10]
        refine (bif_false (by simpa using h10) _ _).trans ?_
        by_cases h11 : ks.length = 1
        · rw [if_pos h11]
          exact congrArg (fun b : Bool => some (Out.ret ((b, ()), ()))) (show ((ks.length : Int) == 1) = true by rw [h11]; rfl)
        · rw [if_neg h11]
          exact congrArg (fun b : Bool => some (Out.ret ((b, ()), ()))) (show ((ks.length : Int) == 1) = false by simp; omega)
    · have h9 : spVers ks 5 lo hi = false := by simpa using h9
      refine (bif_false h9 _ _).trans ?_
      rw [if_pos h9]
      rfl
end
theorem okvLBoth (n : Nat) : HcOk prog 196 (ioHd iovList (FvListN n)) ∧ HcOk prog 203 (ioHd iovField (FvFieldN n)) := by
  induction n with
  | zero => 
    refine ⟨HcOk.none (fn := Go.Proofs.Tryz.f196) (by kernel_rfl) (by kernel_rfl) (by kernel_rfl) _ _ fun d out h => ?_, HcOk.none (fn := Go.Proofs.Tryz.f203) (by kernel_rfl) (by kernel_rfl) (by kernel_rfl) _ _ fun d out h => ?_⟩
    · cases h
    · cases h
  | succ n ih =>
    have h1 := @okvListS ⟨⟨n⟩⟩ (by rw [FuT.val]; exact ih.2)
    have h2 := @okvFieldS ⟨⟨n⟩⟩ (by rw [FuT.val]; exact ih.1)
    rw [FuT.val] at h1 h2
    exact ⟨h1, h2⟩
theorem okvList : HcOk prog 196 (ioHd iovList FvList) := by
  refine HcOk.lim (fun n => (okvLBoth n).1) fun d => ⟨2 * spFws d.1.1 + 2, fun out h => ?_⟩
  obtain ⟨hg, h⟩ := Tr.guard h
  exact (bif_true (by rw [hg]; simp) _ _).trans h
abbrev iovCheck : Io := ⟨[dFlds], [], [], [dI], none⟩
def spChk (l : List Fd) : Int := if spListOk 1 l = true then 0 else 100
def FvCheck (d : iovCheck.In) : Tr iovCheck.Res := .ret (.ret ((spChk d.1.1, ()), ()))
abbrev csvCheck : List (Nat × Hc) := [(196, ioHd iovList FvList)]
def hdvCheck : Hd := hdT csvCheck
def lpvCheck : Lp := lpT []
def bodyvCheck (a0 : List tFld.den) : Option iovCheck.Res := bif !spListOk 1 a0 then some (Out.ret ((100, ()), ())) else some (Out.ret ((0, ()), ()))
theorem runvCheck (a0 : List tFld.den) : Io.run tt hdvCheck dr lpvCheck iovCheck Go.Proofs.Tryz.f186 ((a0, ()), ()) = bodyvCheck a0 := by kernel_rfl
theorem okvCheck : HcOk prog 186 (ioHd iovCheck FvCheck) := by
  refine fn_sound (n := 400) hm (cs := csvCheck) (.cons okvList .nil) (lp := lpvCheck) (fn := Go.Proofs.Tryz.f186) (by kernel_rfl) (by kernel_rfl) (by kernel_rfl) iovCheck (.done (by kernel_rfl)) FvCheck ?_
  rintro ⟨⟨(fs : List Fd), ⟨⟩⟩, ⟨⟩⟩ out hw ho
  cases ho
  refine (runvCheck fs).trans ?_
  unfold bodyvCheck
  show _ = some (Out.ret ((spChk fs, ()), ()))
  unfold spChk
  by_cases h : spListOk 1 fs = true
  · rw [if_pos h]
    exact bif_false (by rw [h]; rfl) _ _
  · rw [if_neg h]
    exact bif_true (by simpa using h) _ _
abbrev iovBegin : Io := ⟨[dFlds, dI], [], [], [dI], none⟩
def spBeg (l : List Fd) (v : Int) : Int := if v < 0 ∨ 3 < v then 8 else spChk l
def FvBegin (d : iovBegin.In) : Tr iovBegin.Res := .ret (.ret ((spBeg d.1.1 d.1.2.1, ()), ()))
abbrev csvBegin : List (Nat × Hc) := [(186, ioHd iovCheck FvCheck)]
def hdvBegin : Hd := hdT csvBegin
def lpvBegin : Lp := lpT []
def bodyvBegin (a0 : List tFld.den) (a1 : Int) : Option iovBegin.Res := bif decide (a1 < 0) then some (Out.ret ((8, ()), ())) else bif decide (3 < a1) then some (Out.ret ((8, ()), ())) else some (Out.ret ((spChk a0, ()), ()))
theorem runvBegin (a0 : List tFld.den) (a1 : Int) : Io.run tt hdvBegin dr lpvBegin iovBegin Go.Proofs.Tryz.f172 ((a0, a1, ()), ()) = bodyvBegin a0 a1 := by kernel_rfl
theorem okvBegin : HcOk prog 172 (ioHd iovBegin FvBegin) := by
  refine fn_sound (n := 400) hm (cs := csvBegin) (.cons okvCheck .nil) (lp := lpvBegin) (fn := Go.Proofs.Tryz.f172) (by kernel_rfl) (by kernel_rfl) (by kernel_rfl) iovBegin (.done (by kernel_rfl)) FvBegin ?_
  rintro ⟨⟨(fs : List Fd), (v : Int), ⟨⟩⟩, ⟨⟩⟩ out hw ho
  cases ho
  refine (runvBegin fs v).trans ?_
  unfold bodyvBegin
  show _ = some (Out.ret ((spBeg fs v, ()), ()))
  unfold spBeg
  by_cases h : v < 0
  · rw [if_pos (.inl h)]
    exact bif_true (decide_eq_true h) _ _
  · refine (bif_false (decide_eq_false h) _ _).trans ?_
    by_cases h2 : 3 < v
    · rw [if_pos (.inr h2)]
      exact bif_true (decide_eq_true h2) _ _
    · rw [if_neg (by omega)]
      exact bif_false (decide_eq_false h2) _ _
theorem spArrs_cons (k : Fd) (ks : List Fd) : spArrs (k :: ks) = (spArr k && spArrs ks) := by unfold spArrs spArr; rfl
theorem spField_arr : ∀ (N : Nat), (∀ (d : Int) (f : Fd), spFw f ≤ N → spFieldOk d f = true → spArr f = true) ∧ (∀ (d : Int) (ks : List Fd), spFws ks < N → spListOk d ks = true → spArrs ks = true ∧ 1 ≤ ks.length ∧ ks.length ≤ 16) := by
  intro N
  induction N with
  | zero => exact ⟨fun d f h => by have := spFw_eq f; omega, fun d ks h => by omega⟩
  | succ N ih =>
    have hl : ∀ (d : Int) (ks : List Fd), spFws ks < N + 1 → spListOk d ks = true → spArrs ks = true ∧ 1 ≤ ks.length ∧ ks.length ≤ 16 := by
      intro d ks hN h
      rw [spListOk] at h
      split at h
      · cases h
      split at h
      · cases h
      split at h
      · cases h
      refine ⟨?_, by omega, by omega⟩
      simp only [Bool.and_eq_true] at h
      have key : ∀ l : List Fd, (∀ k ∈ l, spFw k ≤ N) → spFieldsOk d l = true → spArrs l = true := by
        intro l
        induction l with
        | nil => intro _ _; unfold spArrs; rfl
        | cons k l ihl =>
          intro h1 h2
          rw [spFieldsOk] at h2
          simp only [Bool.and_eq_true] at h2
          rw [spArrs_cons, ih.1 d k (h1 k (by simp)) h2.1, ihl (fun k hk => h1 k (List.mem_cons_of_mem _ hk)) h2.2]; rfl
      exact key ks (fun k hk => by have := spFw_mem hk; omega) h.2
    refine ⟨?_, hl⟩
    rintro d ⟨⟨(nm : List Int), (k' : Int), (lo : Int), (hi : Int), ⟨⟩⟩, (ks : List Fd)⟩ hN h
    rw [spArr_eq]
    have hwf := spFw_eq (Tre.mk (nm, (k', (lo, (hi, ())))) ks)
    have hwf : spFw (Tre.mk (nm, (k', (lo, (hi, ())))) ks) = 1 + spFws ks := hwf
    have hN : 1 + spFws ks ≤ N + 1 := by rw [← hwf]; exact hN
    show ((((decide (k' ≠ 9) || decide (ks.length ≠ 0)) && decide (ks.length ≤ 16)) && spArrs ks)) = true
    rw [spFieldOk] at h
    by_cases c0 : List.length nm = 0
    · rw [if_pos c0] at h; cases h
    rw [if_neg c0] at h
    by_cases c1 : lo < 0
    · rw [if_pos c1] at h; cases h
    rw [if_neg c1] at h
    by_cases c2 : 3 < hi
    · rw [if_pos c2] at h; cases h
    rw [if_neg c2] at h
    by_cases c3 : hi < lo
    · rw [if_pos c3] at h; cases h
    rw [if_neg c3] at h
    by_cases c4 : k' < 1
    · rw [if_pos c4] at h; cases h
    rw [if_neg c4] at h
    by_cases c5 : 10 < k'
    · rw [if_pos c5] at h; cases h
    rw [if_neg c5] at h
    by_cases hk9 : k' < 9
    · rw [if_pos hk9] at h
      by_cases h0 : ks.length = 0
      · have : ks = [] := List.eq_nil_of_length_eq_zero h0
        subst this
        have e : decide (k' ≠ 9) = true := decide_eq_true (by omega)
        have : spArrs [] = true := by unfold spArrs; rfl
        rw [e, this]; rfl
      · rw [if_neg h0] at h; cases h
    rw [if_neg hk9] at h
    by_cases hlk : spListOk (d + 1) ks = false
    · rw [if_pos hlk] at h; cases h
    obtain ⟨h1, h2, h3⟩ := hl (d + 1) ks (by omega) (by simpa using hlk)
    have e : decide (ks.length ≠ 0) = true := decide_eq_true (by omega)
    have e2 : decide (ks.length ≤ 16) = true := decide_eq_true h3
    rw [h1, e, e2, Bool.or_true]; rfl
theorem spBeg_arr {l : List Fd} {v : Int} (h : spBeg l v = 0) : spArrs l = true ∧ l.length ≤ 16 := by
  unfold spBeg at h
  split at h
  · omega
  · unfold spChk at h
    split at h
    · rename_i hl
      have := (spField_arr (spFws l + 1)).2 1 l (by omega) hl
      exact ⟨this.1, this.2.2⟩
    · omega
abbrev iovEncode : Io := ⟨[dFlds, dI, dNode], [], [], [dL, dI], none⟩
def spEnc (l : List Fd) (v : Int) (n : Nd) : List Int × Int := if spBeg l v ≠ 0 then ([], spBeg l v) else if spShN 10 n = false then ([], 101) else if (spVParts l v n).2 ≠ 0 then ([], (spVParts l v n).2) else if 130048 < (spVParts l v n).1.length then ([], 4) else ((spVParts l v n).1, 0)
def FvEncode (d : iovEncode.In) : Tr iovEncode.Res := .ite (decide (8 * spWt d.1.2.2.1 ≤ 4294967296)) (.ret (.ret (((spEnc d.1.1 d.1.2.1 d.1.2.2.1).1, ((spEnc d.1.1 d.1.2.1 d.1.2.2.1).2, ())), ()))) .no
abbrev csvEncode : List (Nat × Hc) := [(172, ioHd iovBegin FvBegin), (173, ioHd iotShape FtShape), (174, ioHd iovParts FvParts)]
def hdvEncode : Hd := hdT csvEncode
def lpvEncode : Lp := lpT []
def bodyvEncode (a0 : List tFld.den) (a1 : Int) (a2 : Nd) : Option iovEncode.Res := bif spBeg a0 a1 != 0 then some (Out.ret (([], spBeg a0 a1, ()), ())) else bif !spShN 10 (Tre.mk a2.1 a2.2) then some (Out.ret (([], 101, ()), ())) else bif spArrs a0 && (decide (8 * spWt (Tre.mk a2.1 a2.2) ≤ 4294967296) && decide (a0.length ≤ 4294967296)) then bif (spVParts a0 a1 (Tre.mk a2.1 a2.2)).snd != 0 then some (Out.ret (([], (spVParts a0 a1 (Tre.mk a2.1 a2.2)).snd, ()), ())) else bif decide (130048 < (↑(spVParts a0 a1 (Tre.mk a2.1 a2.2)).fst.length : Int)) then some (Out.ret (([], 4, ()), ())) else some (Out.ret (((spVParts a0 a1 (Tre.mk a2.1 a2.2)).fst, 0, ()), ())) else none
theorem runvEncode (a0 : List tFld.den) (a1 : Int) (a2 : Nd) : Io.run tt hdvEncode dr lpvEncode iovEncode Go.Proofs.Tryz.f136 ((a0, a1, a2, ()), ()) = bodyvEncode a0 a1 a2 := by kernel_rfl
theorem okvEncode : HcOk prog 136 (ioHd iovEncode FvEncode) := by
  refine fn_sound (n := 400) hm (cs := csvEncode) (.cons okvBegin (.cons oktShape (.cons okvParts .nil))) (lp := lpvEncode) (fn := Go.Proofs.Tryz.f136) (by kernel_rfl) (by kernel_rfl) (by kernel_rfl) iovEncode (.done (by kernel_rfl)) FvEncode ?_
  rintro ⟨⟨(fs : List Fd), (v : Int), (n : Nd), ⟨⟩⟩, ⟨⟩⟩ out hw ho
  obtain ⟨hg, ho⟩ := Tr.guard ho
  have hb : 8 * spWt n ≤ 4294967296 := of_decide_eq_true hg
  cases ho
  refine (runvEncode fs v n).trans ?_
  unfold bodyvEncode
  show _ = some (Out.ret (((spEnc fs v n).1, ((spEnc fs v n).2, ())), ()))
  unfold spEnc
  by_cases h1 : spBeg fs v = 0
  · rw [if_neg (by simpa using h1)]
    refine (bif_false (by rw [h1]; rfl) _ _).trans ?_
    obtain ⟨ha, hl⟩ := spBeg_arr h1
    obtain ⟨nl, nk⟩ := n
    by_cases h2 : spShN 10 (Tre.mk nl nk) = false
    · rw [if_pos h2]
      exact bif_true (show (!spShN 10 (Tre.mk nl nk)) = true by rw [h2]; rfl) _ _
    rw [if_neg h2]
    refine (bif_false (show (!spShN 10 (Tre.mk nl nk)) = false by simpa using h2) _ _).trans ?_
    refine (bif_true (show (spArrs fs && (decide (8 * spWt (Tre.mk nl nk) ≤ 4294967296) && decide (fs.length ≤ 4294967296))) = true by rw [ha]; simp; omega) _ _).trans ?_
    by_cases h3 : (spVParts fs v (Tre.mk nl nk)).2 = 0
    · rw [if_neg (by simpa using h3)]
      refine (bif_false (show ((spVParts fs v (Tre.mk nl nk)).2 != 0) = false by rw [h3]; rfl) _ _).trans ?_
      by_cases h4 : 130048 < (spVParts fs v (Tre.mk nl nk)).1.length
      · rw [if_pos h4]
        exact bif_true (decide_eq_true (show (130048 : Int) < ((spVParts fs v (Tre.mk nl nk)).1.length : Int) by omega)) _ _
      · rw [if_neg h4]
        exact bif_false (decide_eq_false (show ¬ (130048 : Int) < ((spVParts fs v (Tre.mk nl nk)).1.length : Int) by omega)) _ _
    · rw [if_pos h3]
      exact bif_true (by simpa using h3) _ _
  · rw [if_pos h1]
    exact bif_true (by simpa using h1) _ _
end
end Go.Proofs.YtjpeefegeobgfaaGreat.Sym
namespace Go.Proofs.YtjpeefegeobgfaaGreat.Sym
open Go
set_option linter.unusedSimpArgs false
set_option linter.unusedVariables false
noncomputable section
mutual
def spCut (f : Fd) (v : Int) : Nd → Nd × Bool
  | .mk a ks => if f.lab.2.1 = 9 then (.mk (9, (0, (false, (([] : List Int), ())))) (spCItems (f.kids.headD f) v ks).1, (spCItems (f.kids.headD f) v ks).2)
    else if f.lab.2.1 = 10 then (.mk (10, (0, (false, (([] : List Int), ())))) (spCZip v f.kids ks).1, (spCZip v f.kids ks).2) else (.mk a ks, true)
termination_by n => (SizeOf.sizeOf n, 0)
def spCItems (f : Fd) (v : Int) : List Nd → List Nd × Bool
  | [] => ([], true)
  | k :: ks => ((spCut f v k).1 :: (spCItems f v ks).1, (spCut f v k).2 && (spCItems f v ks).2)
termination_by l => (SizeOf.sizeOf l, 0)
def spCZip (v : Int) : List Fd → List Nd → List Nd × Bool
  | f :: fs, k :: ks => if spHas f v = true then ((spCut f v k).1 :: (spCZip v fs ks).1, (spCut f v k).2 && (spCZip v fs ks).2) else ((spCZip v fs ks).1, spZeroN k && (spCZip v fs ks).2)
  | _, _ => ([], true)
termination_by fs l => (SizeOf.sizeOf l, 0)
end
mutual
def spFill (f : Fd) (v : Int) : Nd → Nd
  | .mk a ks => if f.lab.2.1 = 9 then .mk (9, (0, (false, (([] : List Int), ())))) (spFItems (f.kids.headD f) v ks)
    else if f.lab.2.1 = 10 then .mk (10, (0, (false, (([] : List Int), ())))) (spFZip v f.kids ks) else .mk a ks
termination_by n => (SizeOf.sizeOf n, 0, 0)
def spFItems (f : Fd) (v : Int) : List Nd → List Nd
  | [] => []
  | k :: ks => spFill f v k :: spFItems f v ks
termination_by l => (SizeOf.sizeOf l, 0, 0)
def spFZip (v : Int) : List Fd → List Nd → List Nd
  | [], _ => []
  | f :: fs, [] => .mk (f.lab.2.1, (0, (false, (([] : List Int), ())))) [] :: spFZip v fs []
  | f :: fs, k :: ks => if spHas f v = true then spFill f v k :: spFZip v fs ks else .mk (f.lab.2.1, (0, (false, (([] : List Int), ())))) [] :: spFZip v fs (k :: ks)
termination_by fs l => (SizeOf.sizeOf l, 0, fs.length)
end
abbrev iovCut : Io := ⟨[dFld, dI, dNode], [], [], [dNode, dB], none⟩
def FvCutN (n : Nat) (d : iovCut.In) : Tr iovCut.Res := .ite (decide (spWt d.1.2.2.1 < n) && (spArr d.1.1 && decide (spWt d.1.2.2.1 ≤ 4294967296))) (.ret (.ret (((spCut d.1.1 d.1.2.1 d.1.2.2.1).1, ((spCut d.1.1 d.1.2.1 d.1.2.2.1).2, ())), ()))) .no
def FvCut (d : iovCut.In) : Tr iovCut.Res := .ite (spArr d.1.1 && decide (spWt d.1.2.2.1 ≤ 4294967296)) (.ret (.ret (((spCut d.1.1 d.1.2.1 d.1.2.2.1).1, ((spCut d.1.1 d.1.2.1 d.1.2.2.1).2, ())), ()))) .no
section
variable [Inhabited FuT]
abbrev csvCut : List (Nat × Hc) := [(135, ioHd iovCut (FvCutN spFuel)), (170, ioHd iotHere1 FtHere1), (171, ioHd iotZero FtZero)]
def hdvCut : Hd := hdT csvCut
abbrev lovCut_6 : Lo := ⟨⟨[.any, .one (.hol (.int IntKind.i64)), .any, .one (.ptr 3 0), .any, .one (.ptr 5 0), .one (.ptr 6 0), .any, .one (.onl 98 (((Ty.int IntKind.i64).prod ((Ty.int IntKind.i64).prod (Ty.bool.prod ((Ty.sl 5 (Ty.int IntKind.u8)).prod Ty.unit)))).tree 98) 17), .one (.hol .bool), .one (.hol (.int IntKind.i64)), .any, .any, .any, .any, .any, .any, .any, .any, .any, .any, .any, .any, .any, .any, .any, .any, .any, .any, .any, .any, .any, .any, .any, .any, .any, .any, .any, .any, .any, .any, .any, .any, .any, .any, .any, .any, .any, .any, .any, .any, .any, .any, .any, .any, .any, .any, .any, .any, .any, .any, .any, .any, .any, .any, .any, .any, .any, .any, .any, .any, .any, .any, .any, .any, .any, .any, .any, .any, .any, .any, .any, .any, .any, .any, .any, .any, .any, .any, .any, .any, .any, .any, .any, .any, .any, .any, .any, .any, .any, .any, .any, .any, .any, .any, .any, .any, .any, .any, .any, .any, .any], [none, none, none, some [.hol .str, .hol (.int IntKind.i64), .hol (.int IntKind.i64), .hol (.int IntKind.i64), .hol (.sl 213 tFld)], none, some [.hol (.int IntKind.i64), .hol (.int IntKind.i64), .hol .bool, .hol (.sl 5 (Ty.int IntKind.u8)), .hol (.sl 98 (((Ty.int IntKind.i64).prod ((Ty.int IntKind.i64).prod (Ty.bool.prod ((Ty.sl 5 (Ty.int IntKind.u8)).prod Ty.unit)))).tree 98))], some [.hol (.int IntKind.i64), .hol (.int IntKind.i64), .hol .bool, .onl 5 (Ty.int IntKind.u8) 3080, .onl 98 (((Ty.int IntKind.i64).prod ((Ty.int IntKind.i64).prod (Ty.bool.prod ((Ty.sl 5 (Ty.int IntKind.u8)).prod Ty.unit)))).tree 98) 3082]]⟩, [(.exit 0, ⟨[.any, .any, .any, .any, .any, .any, .one (.ptr 6 0), .any, .one (.onl 98 (((Ty.int IntKind.i64).prod ((Ty.int IntKind.i64).prod (Ty.bool.prod ((Ty.sl 5 (Ty.int IntKind.u8)).prod Ty.unit)))).tree 98) 17), .one (.hol .bool), .any, .any, .any, .any, .any, .any, .any, .any, .any, .any, .any, .any, .any, .any, .any, .any, .any, .any, .any, .any, .any, .any, .any, .any, .any, .any, .any, .any, .any, .any, .any, .any, .any, .any, .any, .any, .any, .any, .any, .any, .any, .any, .any, .any, .any, .any, .any, .any, .any, .any, .any, .any, .any, .any, .any, .any, .any, .any, .any, .any, .any, .any, .any, .any, .any, .any, .any, .any, .any, .any, .any, .any, .any, .any, .any, .any, .any, .any, .any, .any, .any, .any, .any, .any, .any, .any, .any, .any, .any, .any, .any, .any, .any, .any, .any, .any, .any, .any, .any, .any, .any, .any], [none, none, none, none, none, none, some [.hol (.int IntKind.i64), .hol (.int IntKind.i64), .hol .bool, .onl 5 (Ty.int IntKind.u8) 3080, .onl 98 (((Ty.int IntKind.i64).prod ((Ty.int IntKind.i64).prod (Ty.bool.prod ((Ty.sl 5 (Ty.int IntKind.u8)).prod Ty.unit)))).tree 98) 3082]]⟩)]⟩
-- FvCut_6 : lovCut_6.st.den → Tr (DenX lovCut_6.xs) | ((h3, (h4, (h5, (h6, ())))), ((h7, (h8, (h9, (h10, (h11, ()))))), ((h12, (h13, (h14, (h15, (h16, ()))))), ((h17, (h18, (h19, (h20, (h21, ()))))), ()))))
abbrev lovCut_15 : Lo := ⟨⟨[.any, .one (.hol (.int IntKind.i64)), .any, .one (.ptr 3 0), .any, .one (.ptr 5 0), .one (.ptr 6 0), .any, .one (.onl 98 (((Ty.int IntKind.i64).prod ((Ty.int IntKind.i64).prod (Ty.bool.prod ((Ty.sl 5 (Ty.int IntKind.u8)).prod Ty.unit)))).tree 98) 17), .one (.hol .bool), .any, .any, .any, .one (.hol (.int IntKind.i64)), .any, .any, .any, .any, .any, .any, .any, .any, .any, .any, .any, .any, .any, .any, .any, .any, .any, .any, .any, .any, .any, .any, .any, .any, .any, .any, .any, .any, .any, .any, .any, .any, .any, .any, .any, .any, .any, .any, .any, .any, .any, .any, .any, .any, .any, .any, .any, .any, .any, .any, .any, .any, .any, .any, .any, .any, .any, .any, .any, .any, .any, .any, .any, .any, .any, .any, .any, .any, .any, .any, .any, .any, .any, .any, .any, .any, .any, .any, .any, .any, .any, .any, .any, .any, .any, .any, .any, .any, .any, .any, .any, .any, .any, .any, .any, .any, .any, .any], [none, none, none, some [.hol .str, .hol (.int IntKind.i64), .hol (.int IntKind.i64), .hol (.int IntKind.i64), .hol (.sl 213 tFld)], none, some [.hol (.int IntKind.i64), .hol (.int IntKind.i64), .hol .bool, .hol (.sl 5 (Ty.int IntKind.u8)), .hol (.sl 98 (((Ty.int IntKind.i64).prod ((Ty.int IntKind.i64).prod (Ty.bool.prod ((Ty.sl 5 (Ty.int IntKind.u8)).prod Ty.unit)))).tree 98))], some [.hol (.int IntKind.i64), .hol (.int IntKind.i64), .hol .bool, .onl 5 (Ty.int IntKind.u8) 3080, .onl 98 (((Ty.int IntKind.i64).prod ((Ty.int IntKind.i64).prod (Ty.bool.prod ((Ty.sl 5 (Ty.int IntKind.u8)).prod Ty.unit)))).tree 98) 3082]]⟩, [(.exit 2, ⟨[.any, .any, .any, .any, .any, .any, .one (.ptr 6 0), .any, .one (.onl 98 (((Ty.int IntKind.i64).prod ((Ty.int IntKind.i64).prod (Ty.bool.prod ((Ty.sl 5 (Ty.int IntKind.u8)).prod Ty.unit)))).tree 98) 17), .one (.hol .bool), .any, .any, .any, .any, .any, .any, .any, .any, .any, .any, .any, .any, .any, .any, .any, .any, .any, .any, .any, .any, .any, .any, .any, .any, .any, .any, .any, .any, .any, .any, .any, .any, .any, .any, .any, .any, .any, .any, .any, .any, .any, .any, .any, .any, .any, .any, .any, .any, .any, .any, .any, .any, .any, .any, .any, .any, .any, .any, .any, .any, .any, .any, .any, .any, .any, .any, .any, .any, .any, .any, .any, .any, .any, .any, .any, .any, .any, .any, .any, .any, .any, .any, .any, .any, .any, .any, .any, .any, .any, .any, .any, .any, .any, .any, .any, .any, .any, .any, .any, .any, .any, .any], [none, none, none, none, none, none, some [.hol (.int IntKind.i64), .hol (.int IntKind.i64), .hol .bool, .onl 5 (Ty.int IntKind.u8) 3080, .onl 98 (((Ty.int IntKind.i64).prod ((Ty.int IntKind.i64).prod (Ty.bool.prod ((Ty.sl 5 (Ty.int IntKind.u8)).prod Ty.unit)))).tree 98) 3082]]⟩)]⟩
-- FvCut_15 : lovCut_15.st.den → Tr (DenX lovCut_15.xs) | ((h74, (h75, (h76, (h77, ())))), ((h78, (h79, (h80, (h81, (h82, ()))))), ((h83, (h84, (h85, (h86, (h87, ()))))), ((h88, (h89, (h90, (h91, (h92, ()))))), ()))))
def FvCut_6 (d : lovCut_6.st.den) : Tr (DenX lovCut_6.xs) :=
  .ite (decide (d.1.2.2.2.1 = 0) && ((decide (d.1.2.1.length = 0) && d.1.2.2.1) && ((decide (d.2.1.2.2.2.2.1.length ≠ 0) && spArrs d.2.1.2.2.2.2.1) && (decide (spWts d.2.2.1.2.2.2.2.1 < spFuel) && decide (spWts d.2.2.1.2.2.2.2.1 ≤ 4294967296)))))
    (.ret (.ret ((), (((spCItems (d.2.1.2.2.2.2.1.headD (.mk ([], (0, (0, (0, ())))) [])) d.1.1 d.2.2.1.2.2.2.2.1).1, ((spCItems (d.2.1.2.2.2.2.1.headD (.mk ([], (0, (0, (0, ())))) [])) d.1.1 d.2.2.1.2.2.2.2.1).2, ())), (d.2.2.2.1, ()))))) .no
def FvCut_15 (d : lovCut_15.st.den) : Tr (DenX lovCut_15.xs) :=
  .ite (decide (d.1.2.2.2.1 = 0) && ((decide (d.1.2.1.length = 0) && d.1.2.2.1) && (spArrs d.2.1.2.2.2.2.1 && (decide (spWts d.2.2.1.2.2.2.2.1 < spFuel) && decide (spWts d.2.2.1.2.2.2.2.1 ≤ 4294967296)))))
    (.ret (.ret ((), (((spCZip d.1.1 d.2.1.2.2.2.2.1 d.2.2.1.2.2.2.2.1).1, ((spCZip d.1.1 d.2.1.2.2.2.2.1 d.2.2.1.2.2.2.2.1).2, ())), (d.2.2.2.1, ()))))) .no
def lpvCut : Lp := lpT [(6, loHd lovCut_6 FvCut_6), (15, loHd lovCut_15 FvCut_15)]
def stepvCut_6 {R : Type} (h3 : Int) (h4 : List (((Ty.int IntKind.i64).prod ((Ty.int IntKind.i64).prod (Ty.bool.prod ((Ty.sl 5 (Ty.int IntKind.u8)).prod Ty.unit)))).tree 98).den) (h5 : Bool) (h6 : Int) (h7 : List Int) (h8 : Int) (h9 : Int) (h10 : Int) (h11 : List (Fd)) (h12 : Int) (h13 : Int) (h14 : Bool) (h15 : List Int) (h16 : List (Nd)) (h17 : Int) (h18 : Int) (h19 : Bool) (h20 : List Int) (h21 : List (((Ty.int IntKind.i64).prod ((Ty.int IntKind.i64).prod (Ty.bool.prod ((Ty.sl 5 (Ty.int IntKind.u8)).prod Ty.unit)))).tree 98).den) (next : Int → List (((Ty.int IntKind.i64).prod ((Ty.int IntKind.i64).prod (Ty.bool.prod ((Ty.sl 5 (Ty.int IntKind.u8)).prod Ty.unit)))).tree 98).den → Bool → Int → List Int → Int → Int → Int → List (Fd) → Int → Int → Bool → List Int → List (Nd) → Int → Int → Bool → List Int → List (((Ty.int IntKind.i64).prod ((Ty.int IntKind.i64).prod (Ty.bool.prod ((Ty.sl 5 (Ty.int IntKind.u8)).prod Ty.unit)))).tree 98).den → Option R) (out : DenX lovCut_6.xs → Option R) : Option R := bif decide (h6 < (↑h16.length : Int)) then bif decide (0 ≤ 0) && decide (0 < (↑h11.length : Int)) then bif decide (0 ≤ h6) && decide (h6 < (↑h16.length : Int)) then bif decide (spWt (Tre.mk (h16.getD h6.toNat (Tre.mk (0, 0, false, [], ()) [])).1 (h16.getD h6.toNat (Tre.mk (0, 0, false, [], ()) [])).2) < spFuel) && (spArr (Tre.mk (h11.getD (Int.toNat 0) (Tre.mk ([], 0, 0, 0, ()) [])).1 (h11.getD (Int.toNat 0) (Tre.mk ([], 0, 0, 0, ()) [])).2) && decide (spWt (Tre.mk (h16.getD h6.toNat (Tre.mk (0, 0, false, [], ()) [])).1 (h16.getD h6.toNat (Tre.mk (0, 0, false, [], ()) [])).2) ≤ 4294967296)) then bif decide (h4.length + 1 ≤ 4294967296) then bif h5 then next (h3) (h4 ++ [Tre.mk (spCut (Tre.mk (h11.getD (Int.toNat 0) (Tre.mk ([], 0, 0, 0, ()) [])).1 (h11.getD (Int.toNat 0) (Tre.mk ([], 0, 0, 0, ()) [])).2) h3 (Tre.mk (h16.getD h6.toNat (Tre.mk (0, 0, false, [], ()) [])).1 (h16.getD h6.toNat (Tre.mk (0, 0, false, [], ()) [])).2)).fst.1 (spCut (Tre.mk (h11.getD (Int.toNat 0) (Tre.mk ([], 0, 0, 0, ()) [])).1 (h11.getD (Int.toNat 0) (Tre.mk ([], 0, 0, 0, ()) [])).2) h3 (Tre.mk (h16.getD h6.toNat (Tre.mk (0, 0, false, [], ()) [])).1 (h16.getD h6.toNat (Tre.mk (0, 0, false, [], ()) [])).2)).fst.2]) ((spCut (Tre.mk (h11.getD (Int.toNat 0) (Tre.mk ([], 0, 0, 0, ()) [])).1 (h11.getD (Int.toNat 0) (Tre.mk ([], 0, 0, 0, ()) [])).2) h3 (Tre.mk (h16.getD h6.toNat (Tre.mk (0, 0, false, [], ()) [])).1 (h16.getD h6.toNat (Tre.mk (0, 0, false, [], ()) [])).2)).snd) (IntKind.i64.wrap (h6 + 1)) (h7) (h8) (h9) (h10) (h11) (h12) (h13) (h14) (h15) (h16) (h17) (h18) (h19) (h20) (h21) else next (h3) (h4 ++ [Tre.mk (spCut (Tre.mk (h11.getD (Int.toNat 0) (Tre.mk ([], 0, 0, 0, ()) [])).1 (h11.getD (Int.toNat 0) (Tre.mk ([], 0, 0, 0, ()) [])).2) h3 (Tre.mk (h16.getD h6.toNat (Tre.mk (0, 0, false, [], ()) [])).1 (h16.getD h6.toNat (Tre.mk (0, 0, false, [], ()) [])).2)).fst.1 (spCut (Tre.mk (h11.getD (Int.toNat 0) (Tre.mk ([], 0, 0, 0, ()) [])).1 (h11.getD (Int.toNat 0) (Tre.mk ([], 0, 0, 0, ()) [])).2) h3 (Tre.mk (h16.getD h6.toNat (Tre.mk (0, 0, false, [], ()) [])).1 (h16.getD h6.toNat (Tre.mk (0, 0, false, [], ()) [])).2)).fst.2]) (false) (IntKind.i64.wrap (h6 + 1)) (h7) (h8) (h9) (h10) (h11) (h12) (h13) (h14) (h15) (h16) (h17) (h18) (h19) (h20) (h21) else none else none else none else none else out (.ret ((), ((h4, (h5, ())), ((h17, (h18, (h19, (h20, (h21, ()))))), ()))))
def itvCut_6 (n : Nat) (h3 : Int) (h4 : List (((Ty.int IntKind.i64).prod ((Ty.int IntKind.i64).prod (Ty.bool.prod ((Ty.sl 5 (Ty.int IntKind.u8)).prod Ty.unit)))).tree 98).den) (h5 : Bool) (h6 : Int) (h7 : List Int) (h8 : Int) (h9 : Int) (h10 : Int) (h11 : List (Fd)) (h12 : Int) (h13 : Int) (h14 : Bool) (h15 : List Int) (h16 : List (Nd)) (h17 : Int) (h18 : Int) (h19 : Bool) (h20 : List Int) (h21 : List (((Ty.int IntKind.i64).prod ((Ty.int IntKind.i64).prod (Ty.bool.prod ((Ty.sl 5 (Ty.int IntKind.u8)).prod Ty.unit)))).tree 98).den) : Option (DenX lovCut_6.xs) := lpN tt hdvCut dr lpvCut 0 Go.Proofs.Tryz.f135 (topL Go.Proofs.Tryz.f135 0) n (lovCut_6.st.mk' ((h3, (h4, (h5, (h6, ())))), ((h7, (h8, (h9, (h10, (h11, ()))))), ((h12, (h13, (h14, (h15, (h16, ()))))), ((h17, (h18, (h19, (h20, (h21, ()))))), ()))))) (decX lovCut_6.xs)
theorem slvCut_6 (n : Nat) (h3 : Int) (h4 : List (((Ty.int IntKind.i64).prod ((Ty.int IntKind.i64).prod (Ty.bool.prod ((Ty.sl 5 (Ty.int IntKind.u8)).prod Ty.unit)))).tree 98).den) (h5 : Bool) (h6 : Int) (h7 : List Int) (h8 : Int) (h9 : Int) (h10 : Int) (h11 : List (Fd)) (h12 : Int) (h13 : Int) (h14 : Bool) (h15 : List Int) (h16 : List (Nd)) (h17 : Int) (h18 : Int) (h19 : Bool) (h20 : List Int) (h21 : List (((Ty.int IntKind.i64).prod ((Ty.int IntKind.i64).prod (Ty.bool.prod ((Ty.sl 5 (Ty.int IntKind.u8)).prod Ty.unit)))).tree 98).den) : itvCut_6 (n + 1) h3 h4 h5 h6 h7 h8 h9 h10 h11 h12 h13 h14 h15 h16 h17 h18 h19 h20 h21 = stepvCut_6 h3 h4 h5 h6 h7 h8 h9 h10 h11 h12 h13 h14 h15 h16 h17 h18 h19 h20 h21 (itvCut_6 n) some := by kernel_rfl
def stepvCut_15 {R : Type} (h74 : Int) (h75 : List (((Ty.int IntKind.i64).prod ((Ty.int IntKind.i64).prod (Ty.bool.prod ((Ty.sl 5 (Ty.int IntKind.u8)).prod Ty.unit)))).tree 98).den) (h76 : Bool) (h77 : Int) (h78 : List Int) (h79 : Int) (h80 : Int) (h81 : Int) (h82 : List (Fd)) (h83 : Int) (h84 : Int) (h85 : Bool) (h86 : List Int) (h87 : List (Nd)) (h88 : Int) (h89 : Int) (h90 : Bool) (h91 : List Int) (h92 : List (((Ty.int IntKind.i64).prod ((Ty.int IntKind.i64).prod (Ty.bool.prod ((Ty.sl 5 (Ty.int IntKind.u8)).prod Ty.unit)))).tree 98).den) (next : Int → List (((Ty.int IntKind.i64).prod ((Ty.int IntKind.i64).prod (Ty.bool.prod ((Ty.sl 5 (Ty.int IntKind.u8)).prod Ty.unit)))).tree 98).den → Bool → Int → List Int → Int → Int → Int → List (Fd) → Int → Int → Bool → List Int → List (Nd) → Int → Int → Bool → List Int → List (((Ty.int IntKind.i64).prod ((Ty.int IntKind.i64).prod (Ty.bool.prod ((Ty.sl 5 (Ty.int IntKind.u8)).prod Ty.unit)))).tree 98).den → Option R) (out : DenX lovCut_15.xs → Option R) : Option R := bif decide (h77 < (↑h82.length : Int)) then bif decide (h77 < (↑h87.length : Int)) then bif decide (0 ≤ h77) && decide (h77 < (↑h82.length : Int)) then bif spHas (Tre.mk (h82.getD h77.toNat (Tre.mk ([], 0, 0, 0, ()) [])).1 (h82.getD h77.toNat (Tre.mk ([], 0, 0, 0, ()) [])).2) h74 then bif decide (0 ≤ h77) && decide (h77 < (↑h82.length : Int)) then bif decide (0 ≤ h77) && decide (h77 < (↑h87.length : Int)) then bif decide (spWt (Tre.mk (h87.getD h77.toNat (Tre.mk (0, 0, false, [], ()) [])).1 (h87.getD h77.toNat (Tre.mk (0, 0, false, [], ()) [])).2) < spFuel) && (spArr (Tre.mk (h82.getD h77.toNat (Tre.mk ([], 0, 0, 0, ()) [])).1 (h82.getD h77.toNat (Tre.mk ([], 0, 0, 0, ()) [])).2) && decide (spWt (Tre.mk (h87.getD h77.toNat (Tre.mk (0, 0, false, [], ()) [])).1 (h87.getD h77.toNat (Tre.mk (0, 0, false, [], ()) [])).2) ≤ 4294967296)) then bif decide (h75.length + 1 ≤ 4294967296) then bif h76 then next (h74) (h75 ++ [Tre.mk (spCut (Tre.mk (h82.getD h77.toNat (Tre.mk ([], 0, 0, 0, ()) [])).1 (h82.getD h77.toNat (Tre.mk ([], 0, 0, 0, ()) [])).2) h74 (Tre.mk (h87.getD h77.toNat (Tre.mk (0, 0, false, [], ()) [])).1 (h87.getD h77.toNat (Tre.mk (0, 0, false, [], ()) [])).2)).fst.1 (spCut (Tre.mk (h82.getD h77.toNat (Tre.mk ([], 0, 0, 0, ()) [])).1 (h82.getD h77.toNat (Tre.mk ([], 0, 0, 0, ()) [])).2) h74 (Tre.mk (h87.getD h77.toNat (Tre.mk (0, 0, false, [], ()) [])).1 (h87.getD h77.toNat (Tre.mk (0, 0, false, [], ()) [])).2)).fst.2]) ((spCut (Tre.mk (h82.getD h77.toNat (Tre.mk ([], 0, 0, 0, ()) [])).1 (h82.getD h77.toNat (Tre.mk ([], 0, 0, 0, ()) [])).2) h74 (Tre.mk (h87.getD h77.toNat (Tre.mk (0, 0, false, [], ()) [])).1 (h87.getD h77.toNat (Tre.mk (0, 0, false, [], ()) [])).2)).snd) (IntKind.i64.wrap (h77 + 1)) (h78) (h79) (h80) (h81) (h82) (h83) (h84) (h85) (h86) (h87) (h88) (h89) (h90) (h91) (h92) else next (h74) (h75 ++ [Tre.mk (spCut (Tre.mk (h82.getD h77.toNat (Tre.mk ([], 0, 0, 0, ()) [])).1 (h82.getD h77.toNat (Tre.mk ([], 0, 0, 0, ()) [])).2) h74 (Tre.mk (h87.getD h77.toNat (Tre.mk (0, 0, false, [], ()) [])).1 (h87.getD h77.toNat (Tre.mk (0, 0, false, [], ()) [])).2)).fst.1 (spCut (Tre.mk (h82.getD h77.toNat (Tre.mk ([], 0, 0, 0, ()) [])).1 (h82.getD h77.toNat (Tre.mk ([], 0, 0, 0, ()) [])).2) h74 (Tre.mk (h87.getD h77.toNat (Tre.mk (0, 0, false, [], ()) [])).1 (h87.getD h77.toNat (Tre.mk (0, 0, false, [], ()) [])).2)).fst.2]) (false) (IntKind.i64.wrap (h77 + 1)) (h78) (h79) (h80) (h81) (h82) (h83) (h84) (h85) (h86) (h87) (h88) (h89) (h90) (h91) (h92) else none else none else none else none else bif h76 then bif decide (0 ≤ h77) && decide (h77 < (↑h87.length : Int)) then next (h74) (h75) (spZeroN (Tre.mk (h87.getD h77.toNat (Tre.mk (0, 0, false, [], ()) [])).1 (h87.getD h77.toNat (Tre.mk (0, 0, false, [], ()) [])).2)) (IntKind.i64.wrap (h77 + 1)) (h78) (h79) (h80) (h81) (h82) (h83) (h84) (h85) (h86) (h87) (h88) (h89) (h90) (h91) (h92) else none else next (h74) (h75) (false) (IntKind.i64.wrap (h77 + 1)) (h78) (h79) (h80) (h81) (h82) (h83) (h84) (h85) (h86) (h87) (h88) (h89) (h90) (h91) (h92) else none else out (.ret ((), ((h75, (h76, ())), ((h88, (h89, (h90, (h91, (h92, ()))))), ())))) else out (.ret ((), ((h75, (h76, ())), ((h88, (h89, (h90, (h91, (h92, ()))))), ()))))
def itvCut_15 (n : Nat) (h74 : Int) (h75 : List (((Ty.int IntKind.i64).prod ((Ty.int IntKind.i64).prod (Ty.bool.prod ((Ty.sl 5 (Ty.int IntKind.u8)).prod Ty.unit)))).tree 98).den) (h76 : Bool) (h77 : Int) (h78 : List Int) (h79 : Int) (h80 : Int) (h81 : Int) (h82 : List (Fd)) (h83 : Int) (h84 : Int) (h85 : Bool) (h86 : List Int) (h87 : List (Nd)) (h88 : Int) (h89 : Int) (h90 : Bool) (h91 : List Int) (h92 : List (((Ty.int IntKind.i64).prod ((Ty.int IntKind.i64).prod (Ty.bool.prod ((Ty.sl 5 (Ty.int IntKind.u8)).prod Ty.unit)))).tree 98).den) : Option (DenX lovCut_15.xs) := lpN tt hdvCut dr lpvCut 0 Go.Proofs.Tryz.f135 (topL Go.Proofs.Tryz.f135 1) n (lovCut_15.st.mk' ((h74, (h75, (h76, (h77, ())))), ((h78, (h79, (h80, (h81, (h82, ()))))), ((h83, (h84, (h85, (h86, (h87, ()))))), ((h88, (h89, (h90, (h91, (h92, ()))))), ()))))) (decX lovCut_15.xs)
theorem slvCut_15 (n : Nat) (h74 : Int) (h75 : List (((Ty.int IntKind.i64).prod ((Ty.int IntKind.i64).prod (Ty.bool.prod ((Ty.sl 5 (Ty.int IntKind.u8)).prod Ty.unit)))).tree 98).den) (h76 : Bool) (h77 : Int) (h78 : List Int) (h79 : Int) (h80 : Int) (h81 : Int) (h82 : List (Fd)) (h83 : Int) (h84 : Int) (h85 : Bool) (h86 : List Int) (h87 : List (Nd)) (h88 : Int) (h89 : Int) (h90 : Bool) (h91 : List Int) (h92 : List (((Ty.int IntKind.i64).prod ((Ty.int IntKind.i64).prod (Ty.bool.prod ((Ty.sl 5 (Ty.int IntKind.u8)).prod Ty.unit)))).tree 98).den) : itvCut_15 (n + 1) h74 h75 h76 h77 h78 h79 h80 h81 h82 h83 h84 h85 h86 h87 h88 h89 h90 h91 h92 = stepvCut_15 h74 h75 h76 h77 h78 h79 h80 h81 h82 h83 h84 h85 h86 h87 h88 h89 h90 h91 h92 (itvCut_15 n) some := by kernel_rfl
theorem loopvCut_6 {f0 : Fd} {fs : List Fd} {ks : List Nd} {v : Int} (ha : spArr f0 = true) (hf : spWts ks < spFuel) (hb : spWts ks ≤ 4294967296) (nm : List Int) (k' lo hi a b : Int) (z : Bool) (x : List Int) (a' b' : Int) (z' : Bool) (x' : List Int) (l' : List Nd) : ∀ (k j : Nat) (o : List Nd) (t : Bool), ks.length < j + k → j ≤ ks.length → o.length ≤ j →
    itvCut_6 k v o t j nm k' lo hi (f0 :: fs) a b z x ks a' b' z' x' l' = some (.ret ((), (((o ++ (spCItems f0 v (ks.drop j)).1), ((t && (spCItems f0 v (ks.drop j)).2), ())), ((a', (b', (z', (x', (l', ()))))), ())))) := by
  intro k
  induction k with
  | zero => intro j o t h1 h2; omega
  | succ k ih =>
    intro j o t h1 h2 h3
    rw [slvCut_6]
    unfold stepvCut_6
    have hlen := spWts_len ks
    by_cases hj : j < ks.length
    · refine (bif_true (decide_eq_true (show (j : Int) < (ks.length : Int) by omega)) _ _).trans ?_
      refine (bif_true (by simp) _ _).trans ?_
      refine (bif_true (by simp; omega) _ _).trans ?_
      have hmem := spWt_mem (List.getElem_mem hj)
      have hd : ks.drop j = ks[j] :: ks.drop (j + 1) := List.drop_eq_getElem_cons hj
      have ih' := fun t' => ih (j + 1) (o ++ [(spCut f0 v ks[j]).1]) t' (by omega) (by omega) (by simp; omega)
      rw [hd, spCItems]
      rw [wrap_i64 (n := (j : Int) + 1) (by omega) (by omega)]
      simp only [Int.toNat_natCast, getD_lt hj]
      generalize ks[j] = u at hmem ih' ⊢
      obtain ⟨ul, uk⟩ := u
      obtain ⟨fl, fk⟩ := f0
      refine (bif_true (show (decide (spWt (Tre.mk ul uk) < spFuel) && (spArr (Tre.mk fl fk) && decide (spWt (Tre.mk ul uk) ≤ 4294967296))) = true by rw [ha]; simp; omega) _ _).trans ?_
      refine (bif_true (decide_eq_true (show o.length + 1 ≤ 4294967296 by omega)) _ _).trans ?_
      have e1 : o ++ [Tre.mk (spCut (Tre.mk fl fk) v (Tre.mk ul uk)).1.1 (spCut (Tre.mk fl fk) v (Tre.mk ul uk)).1.2] = o ++ [(spCut (Tre.mk fl fk) v (Tre.mk ul uk)).1] := by rw [nd_eta]
      cases t with
      | true =>
        show itvCut_6 k v (o ++ [Tre.mk (spCut (Tre.mk fl fk) v (Tre.mk ul uk)).1.1 (spCut (Tre.mk fl fk) v (Tre.mk ul uk)).1.2]) (spCut (Tre.mk fl fk) v (Tre.mk ul uk)).2 _ _ _ _ _ _ _ _ _ _ _ _ _ _ _ _ = _
        rw [e1]
        refine (ih' _).trans ?_; simp
      | false =>
        show itvCut_6 k v (o ++ [Tre.mk (spCut (Tre.mk fl fk) v (Tre.mk ul uk)).1.1 (spCut (Tre.mk fl fk) v (Tre.mk ul uk)).1.2]) false _ _ _ _ _ _ _ _ _ _ _ _ _ _ _ _ = _
        rw [e1]
        refine (ih' false).trans ?_; simp
    · refine (bif_false (decide_eq_false (show ¬ (j : Int) < (ks.length : Int) by omega)) _ _).trans ?_
      rw [List.drop_of_length_le (by omega), spCItems, List.append_nil, Bool.and_true]
theorem loopvCut_15 {fs : List Fd} {ks : List Nd} {v : Int} (ha : spArrs fs = true) (hf : spWts ks < spFuel) (hb : spWts ks ≤ 4294967296) (nm : List Int) (k' lo hi a b : Int) (z : Bool) (x : List Int) (a' b' : Int) (z' : Bool) (x' : List Int) (l' : List Nd) : ∀ (k j : Nat) (o : List Nd) (t : Bool), ks.length < j + k → j ≤ ks.length → o.length ≤ j →
    itvCut_15 k v o t j nm k' lo hi fs a b z x ks a' b' z' x' l' = some (.ret ((), (((o ++ (spCZip v (fs.drop j) (ks.drop j)).1), ((t && (spCZip v (fs.drop j) (ks.drop j)).2), ())), ((a', (b', (z', (x', (l', ()))))), ())))) := by
  intro k
  induction k with
  | zero => intro j o t h1 h2; omega
  | succ k ih =>
    intro j o t h1 h2 h3
    rw [slvCut_15]
    unfold stepvCut_15
    have hlen := spWts_len ks
    by_cases hj' : j < fs.length
    · refine (bif_true (decide_eq_true (show (j : Int) < (fs.length : Int) by omega)) _ _).trans ?_
      by_cases hj : j < ks.length
      · refine (bif_true (decide_eq_true (show (j : Int) < (ks.length : Int) by omega)) _ _).trans ?_
        refine (bif_true (by simp; omega) _ _).trans ?_
        have hmem := spWt_mem (List.getElem_mem hj)
        have har := spArrs_mem ha (List.getElem_mem hj')
        have hd : ks.drop j = ks[j] :: ks.drop (j + 1) := List.drop_eq_getElem_cons hj
        have hd' : fs.drop j = fs[j] :: fs.drop (j + 1) := List.drop_eq_getElem_cons hj'
        have ih1 := fun t' => ih (j + 1) (o ++ [(spCut fs[j] v ks[j]).1]) t' (by omega) (by omega) (by simp; omega)
        have ih2 := fun t' => ih (j + 1) o t' (by omega) (by omega) (by omega)
        rw [hd, hd', spCZip]
        rw [wrap_i64 (n := (j : Int) + 1) (by omega) (by omega)]
        simp only [Int.toNat_natCast, getD_lt hj, getD_lt hj']
        generalize ks[j] = u at hmem ih1 ⊢
        generalize fs[j] = f0 at har ih1 ⊢
        obtain ⟨ul, uk⟩ := u
        obtain ⟨fl, fk⟩ := f0
        by_cases hh : spHas (Tre.mk fl fk) v = true
        · refine (bif_true (show spHas (Tre.mk fl fk) v = true from hh) _ _).trans ?_
          refine (bif_true (by simp; omega) _ _).trans ?_
          refine (bif_true (by simp; omega) _ _).trans ?_
          refine (bif_true (show (decide (spWt (Tre.mk ul uk) < spFuel) && (spArr (Tre.mk fl fk) && decide (spWt (Tre.mk ul uk) ≤ 4294967296))) = true by rw [har]; simp; omega) _ _).trans ?_
          refine (bif_true (decide_eq_true (show o.length + 1 ≤ 4294967296 by omega)) _ _).trans ?_
          rw [if_pos hh]
          show (bif t then itvCut_15 k v (o ++ [Tre.mk (spCut (Tre.mk fl fk) v (Tre.mk ul uk)).1.1 (spCut (Tre.mk fl fk) v (Tre.mk ul uk)).1.2]) (spCut (Tre.mk fl fk) v (Tre.mk ul uk)).2 _ _ _ _ _ _ _ _ _ _ _ _ _ _ _ _ else _) = _
          generalize spCut (Tre.mk fl fk) v (Tre.mk ul uk) = r at ih1 ⊢
          obtain ⟨⟨rl, rk⟩, rb⟩ := r
          cases t with
          | true => refine (ih1 rb).trans ?_; simp
          | false => refine (ih1 false).trans ?_; simp
        · refine (bif_false (show spHas (Tre.mk fl fk) v = false by simpa using hh) _ _).trans ?_
          rw [if_neg hh]
          cases t with
          | true =>
            show (bif decide (0 ≤ (j : Int)) && decide ((j : Int) < (ks.length : Int)) then _ else none) = _
            refine (bif_true (by simp; omega) _ _).trans ?_
            refine (ih2 _).trans ?_
            simp
          | false =>
            refine (ih2 false).trans ?_
            simp
      · refine (bif_false (decide_eq_false (show ¬ (j : Int) < (ks.length : Int) by omega)) _ _).trans ?_
        rw [List.drop_of_length_le (show ks.length ≤ j by omega), List.drop_eq_getElem_cons hj', spCZip, List.append_nil, Bool.and_true]
        simp
    · refine (bif_false (decide_eq_false (show ¬ (j : Int) < (fs.length : Int) by omega)) _ _).trans ?_
      rw [List.drop_of_length_le (show fs.length ≤ j by omega), spCZip, List.append_nil, Bool.and_true]
      simp
def bodyvCut (a0 : Fd) (a1 : Int) (a2 : Nd) : Option iovCut.Res := bif a0.1.snd.fst == 9 then (FvCut_6 ((a1, ([], (true, (0, ())))), ((a0.1.fst, (a0.1.snd.fst, (a0.1.snd.snd.fst, (a0.1.snd.snd.snd.fst, (a0.2, ()))))), ((a2.1.fst, (a2.1.snd.fst, (a2.1.snd.snd.fst, (a2.1.snd.snd.snd.fst, (a2.2, ()))))), ((0, (0, (false, ([], ([], ()))))), ()))))).run fun y => match y with | .ret ((), ((x67, x68, ()), (x69, x70, x71, x72, x73, ()), ())) => (some (Out.ret ((Tre.mk (9, 0, false, [], ()) x67, x68, ()), ()))) else bif a0.1.snd.fst != 10 then some (Out.ret ((Tre.mk a2.1 a2.2, true, ()), ())) else (FvCut_15 ((a1, ([], (true, (0, ())))), ((a0.1.fst, (a0.1.snd.fst, (a0.1.snd.snd.fst, (a0.1.snd.snd.snd.fst, (a0.2, ()))))), ((a2.1.fst, (a2.1.snd.fst, (a2.1.snd.snd.fst, (a2.1.snd.snd.snd.fst, (a2.2, ()))))), ((0, (0, (false, ([], ([], ()))))), ()))))).run fun y => match y with | .ret ((), ((x183, x184, ()), (x185, x186, x187, x188, x189, ()), ())) => (some (Out.ret ((Tre.mk (10, 0, false, [], ()) x183, x184, ()), ())))
theorem runvCut (a0 : Fd) (a1 : Int) (a2 : Nd) : Io.run tt hdvCut dr lpvCut iovCut Go.Proofs.Tryz.f135 ((a0, a1, a2, ()), ()) = bodyvCut a0 a1 a2 := by kernel_rfl
theorem okvCutS (rvCut : HcOk prog 135 (ioHd iovCut (FvCutN spFuel))) : HcOk prog 135 (ioHd iovCut (FvCutN (spFuel + 1))) := by
  refine fn_sound (n := 400) hm (cs := csvCut) (.cons rvCut (.cons oktHere1 (.cons oktZero .nil))) (lp := lpvCut) (fn := Go.Proofs.Tryz.f135) (by kernel_rfl) (by kernel_rfl) (by kernel_rfl) iovCut (.step (h0 := loHd lovCut_6 FvCut_6) (by kernel_rfl) (loop_sound (n := 400) hm (cs := csvCut) (.cons rvCut (.cons oktHere1 (.cons oktZero .nil))) (lp := lpvCut) (fn := Go.Proofs.Tryz.f135) (.done (by kernel_rfl)) lovCut_6 FvCut_6 ?_) (.step (h0 := loHd lovCut_15 FvCut_15) (by kernel_rfl) (loop_sound (n := 400) hm (cs := csvCut) (.cons rvCut (.cons oktHere1 (.cons oktZero .nil))) (lp := lpvCut) (fn := Go.Proofs.Tryz.f135) (.done (by kernel_rfl)) lovCut_15 FvCut_15 ?_) (.done (by kernel_rfl)))) (FvCutN (spFuel + 1)) ?_
  · rintro ⟨⟨(v : Int), (o : List Nd), (t : Bool), (i : Int), ⟨⟩⟩, ⟨⟨(nm : List Int), (k' : Int), (lo : Int), (hi : Int), (fs : List Fd), ⟨⟩⟩, ⟨(a : Int), (b : Int), (z : Bool), (x : List Int), (ks : List Nd), ⟨⟩⟩, ⟨(a' : Int), (b' : Int), (z' : Bool), (x' : List Int), (l' : List Nd), ⟨⟩⟩, ⟨⟩⟩⟩ y hw hy
    obtain ⟨hg, hy⟩ := Tr.guard hy
    simp only [Bool.and_eq_true, decide_eq_true_eq] at hg
    obtain ⟨h1, ⟨h2, h7⟩, ⟨h3, h4⟩, h5, h6⟩ := hg
    have h1 : i = 0 := h1
    have h2 : o = [] := List.eq_nil_of_length_eq_zero h2
    have h7 : t = true := h7
    have h3 : fs.length ≠ 0 := h3
    have h4 : spArrs fs = true := h4
    have h5 : spWts ks < spFuel := h5
    have h6 : spWts ks ≤ 4294967296 := h6
    subst h1
    subst h2
    subst h7
    obtain ⟨f0, fs, rfl⟩ : ∃ f0 fs', fs = f0 :: fs' := by cases fs with | nil => exact absurd rfl h3 | cons a b => exact ⟨a, b, rfl⟩
    refine ⟨ks.length + 1, (loopvCut_6 (spArrs_mem h4 (by simp)) h5 h6 nm k' lo hi a b z x a' b' z' x' l' (ks.length + 1) 0 [] true (by omega) (by omega) (by simp)).trans ?_⟩
    rw [← hy, List.drop_zero]
    rfl
  · rintro ⟨⟨(v : Int), (o : List Nd), (t : Bool), (i : Int), ⟨⟩⟩, ⟨⟨(nm : List Int), (k' : Int), (lo : Int), (hi : Int), (fs : List Fd), ⟨⟩⟩, ⟨(a : Int), (b : Int), (z : Bool), (x : List Int), (ks : List Nd), ⟨⟩⟩, ⟨(a' : Int), (b' : Int), (z' : Bool), (x' : List Int), (l' : List Nd), ⟨⟩⟩, ⟨⟩⟩⟩ y hw hy
    obtain ⟨hg, hy⟩ := Tr.guard hy
    simp only [Bool.and_eq_true, decide_eq_true_eq] at hg
    obtain ⟨h1, ⟨h2, h7⟩, h4, h5, h6⟩ := hg
    have h1 : i = 0 := h1
    have h2 : o = [] := List.eq_nil_of_length_eq_zero h2
    have h7 : t = true := h7
    have h4 : spArrs fs = true := h4
    have h5 : spWts ks < spFuel := h5
    have h6 : spWts ks ≤ 4294967296 := h6
    subst h1
    subst h2
    subst h7
    refine ⟨ks.length + 1, (loopvCut_15 h4 h5 h6 nm k' lo hi a b z x a' b' z' x' l' (ks.length + 1) 0 [] true (by omega) (by omega) (by simp)).trans ?_⟩
    rw [← hy, List.drop_zero, List.drop_zero]
    rfl
  · rintro ⟨⟨(f : Fd), (v : Int), (n : Nd), ⟨⟩⟩, ⟨⟩⟩ out hw ho
    obtain ⟨hg, ho⟩ := Tr.guard ho
    simp only [Bool.and_eq_true, decide_eq_true_eq] at hg
    obtain ⟨hk, ha, hb⟩ := hg
    have hk : spWt n < spFuel + 1 := hk
    have ha : spArr f = true := ha
    have hb : spWt n ≤ 4294967296 := hb
    cases ho
    refine (runvCut f v n).trans ?_
    unfold bodyvCut
    show _ = some (Out.ret (((spCut f v n).1, ((spCut f v n).2, ())), ()))
    obtain ⟨⟨(nm : List Int), (k' : Int), (lo : Int), (hi : Int), ⟨⟩⟩, (fs : List Fd)⟩ := f
    obtain ⟨⟨(a : Int), (b : Int), (z : Bool), (x : List Int), ⟨⟩⟩, (ks : List Nd)⟩ := n
    have hwf := spWt_eq (Tre.mk (a, (b, (z, (x, ())))) ks)
    have hwf : spWt (Tre.mk (a, (b, (z, (x, ())))) ks) = 1 + x.length + spWts ks := hwf
    have hk : 1 + x.length + spWts ks < spFuel + 1 := by rw [← hwf]; exact hk
    have hb : 1 + x.length + spWts ks ≤ 4294967296 := by rw [← hwf]; exact hb
    rw [spArr_eq] at ha
    simp only [Bool.and_eq_true] at ha
    obtain ⟨⟨ha1, ha3⟩, ha2⟩ := ha
    have ha2 : spArrs fs = true := ha2
    rw [spCut]
    by_cases h9 : k' = 9
    · rw [if_pos h9]
      refine (bif_true (by simpa using h9) _ _).trans ?_
      have h0 : fs.length ≠ 0 := by
        rcases Bool.or_eq_true _ _ ▸ ha1 with h | h
        · exact absurd h9 (of_decide_eq_true h)
        · exact of_decide_eq_true h
      obtain ⟨f0, fs, rfl⟩ : ∃ f0 fs', fs = f0 :: fs' := by cases fs with | nil => exact absurd rfl h0 | cons a b => exact ⟨a, b, rfl⟩
      have c1 : (decide ((0 : Int) = 0) && ((decide (([] : List Nd).length = 0) && true) && ((decide ((f0 :: fs).length ≠ 0) && spArrs (f0 :: fs)) && (decide (spWts ks < spFuel) && decide (spWts ks ≤ 4294967296))))) = true := by
        rw [ha2]; simp; omega
      exact bif_true c1 _ _
    rw [if_neg h9]
    refine (bif_false (by simpa using h9) _ _).trans ?_
    by_cases h10 : k' = 10
    · rw [if_pos h10]
      refine (bif_false (by simpa using h10) _ _).trans ?_
      have c1 : (decide ((0 : Int) = 0) && ((decide (([] : List Nd).length = 0) && true) && (spArrs fs && (decide (spWts ks < spFuel) && decide (spWts ks ≤ 4294967296))))) = true := by
        rw [ha2]; simp; omega
      exact bif_true c1 _ _
    · rw [if_neg h10]
      exact bif_true (by simpa using h10) _ _
end
theorem okvCutN (n : Nat) : HcOk prog 135 (ioHd iovCut (FvCutN n)) := by
  induction n with
  | zero => exact HcOk.none (fn := Go.Proofs.Tryz.f135) (by kernel_rfl) (by kernel_rfl) (by kernel_rfl) _ _ fun d out h => by cases h
  | succ n ih =>
    have := @okvCutS ⟨⟨n⟩⟩ (by rw [FuT.val]; exact ih)
    rw [FuT.val] at this
    exact this
theorem okvCut : HcOk prog 135 (ioHd iovCut FvCut) := by
  refine HcOk.lim okvCutN fun d => ⟨spWt d.1.2.2.1 + 1, fun out h => ?_⟩
  obtain ⟨hg, h⟩ := Tr.guard h
  exact (bif_true (by rw [hg]; simp) _ _).trans h
section
variable [Inhabited FuT]
abbrev lovFill_5 : Lo := ⟨⟨[.any, .one (.hol (.int IntKind.i64)), .any, .one (.ptr 3 0), .any, .one (.ptr 5 0), .one (.ptr 6 0), .one (.onl 98 (((Ty.int IntKind.i64).prod ((Ty.int IntKind.i64).prod (Ty.bool.prod ((Ty.sl 5 (Ty.int IntKind.u8)).prod Ty.unit)))).tree 98) 15), .one (.hol (.int IntKind.i64)), .any, .any, .any, .any, .any, .any, .any, .any, .any, .any, .any, .any, .any, .any, .any, .any, .any, .any, .any, .any, .any, .any, .any, .any, .any, .any, .any, .any, .any, .any, .any, .any, .any, .any, .any, .any, .any, .any, .any, .any, .any, .any, .any, .any, .any, .any, .any, .any, .any, .any, .any, .any, .any, .any, .any, .any, .any, .any, .any, .any, .any, .any, .any, .any, .any, .any, .any, .any, .any, .any, .any, .any, .any, .any, .any, .any, .any, .any, .any, .any, .any, .any, .any], [none, none, none, some [.hol .str, .hol (.int IntKind.i64), .hol (.int IntKind.i64), .hol (.int IntKind.i64), .hol (.sl 213 tFld)], none, some [.hol (.int IntKind.i64), .hol (.int IntKind.i64), .hol .bool, .hol (.sl 5 (Ty.int IntKind.u8)), .hol (.sl 98 (((Ty.int IntKind.i64).prod ((Ty.int IntKind.i64).prod (Ty.bool.prod ((Ty.sl 5 (Ty.int IntKind.u8)).prod Ty.unit)))).tree 98))], some [.hol (.int IntKind.i64), .hol (.int IntKind.i64), .hol .bool, .onl 5 (Ty.int IntKind.u8) 3080, .onl 98 (((Ty.int IntKind.i64).prod ((Ty.int IntKind.i64).prod (Ty.bool.prod ((Ty.sl 5 (Ty.int IntKind.u8)).prod Ty.unit)))).tree 98) 3082]]⟩, [(.exit 0, ⟨[.any, .any, .any, .any, .any, .any, .one (.ptr 6 0), .one (.onl 98 (((Ty.int IntKind.i64).prod ((Ty.int IntKind.i64).prod (Ty.bool.prod ((Ty.sl 5 (Ty.int IntKind.u8)).prod Ty.unit)))).tree 98) 15), .any, .any, .any, .any, .any, .any, .any, .any, .any, .any, .any, .any, .any, .any, .any, .any, .any, .any, .any, .any, .any, .any, .any, .any, .any, .any, .any, .any, .any, .any, .any, .any, .any, .any, .any, .any, .any, .any, .any, .any, .any, .any, .any, .any, .any, .any, .any, .any, .any, .any, .any, .any, .any, .any, .any, .any, .any, .any, .any, .any, .any, .any, .any, .any, .any, .any, .any, .any, .any, .any, .any, .any, .any, .any, .any, .any, .any, .any, .any, .any, .any, .any, .any, .any], [none, none, none, none, none, none, some [.hol (.int IntKind.i64), .hol (.int IntKind.i64), .hol .bool, .onl 5 (Ty.int IntKind.u8) 3080, .onl 98 (((Ty.int IntKind.i64).prod ((Ty.int IntKind.i64).prod (Ty.bool.prod ((Ty.sl 5 (Ty.int IntKind.u8)).prod Ty.unit)))).tree 98) 3082]]⟩)]⟩
-- FvFill_5 : lovFill_5.st.den → Tr (DenX lovFill_5.xs) | ((h3, (h4, (h5, ()))), ((h6, (h7, (h8, (h9, (h10, ()))))), ((h11, (h12, (h13, (h14, (h15, ()))))), ((h16, (h17, (h18, (h19, (h20, ()))))), ()))))
abbrev lovFill_13 : Lo := ⟨⟨[.any, .one (.hol (.int IntKind.i64)), .any, .one (.ptr 3 0), .any, .one (.ptr 5 0), .one (.ptr 6 0), .one (.onl 98 (((Ty.int IntKind.i64).prod ((Ty.int IntKind.i64).prod (Ty.bool.prod ((Ty.sl 5 (Ty.int IntKind.u8)).prod Ty.unit)))).tree 98) 15), .any, .one (.hol (.int IntKind.i64)), .one (.hol (.int IntKind.i64)), .any, .any, .any, .any, .any, .any, .any, .any, .any, .any, .any, .any, .any, .any, .any, .any, .any, .any, .any, .any, .any, .any, .any, .any, .any, .any, .any, .any, .any, .any, .any, .any, .any, .any, .any, .any, .any, .any, .any, .any, .any, .any, .any, .any, .any, .any, .any, .any, .any, .any, .any, .any, .any, .any, .any, .any, .any, .any, .any, .any, .any, .any, .any, .any, .any, .any, .any, .any, .any, .any, .any, .any, .any, .any, .any, .any, .any, .any, .any, .any, .any], [none, none, none, some [.hol .str, .hol (.int IntKind.i64), .hol (.int IntKind.i64), .hol (.int IntKind.i64), .hol (.sl 213 tFld)], none, some [.hol (.int IntKind.i64), .hol (.int IntKind.i64), .hol .bool, .hol (.sl 5 (Ty.int IntKind.u8)), .hol (.sl 98 (((Ty.int IntKind.i64).prod ((Ty.int IntKind.i64).prod (Ty.bool.prod ((Ty.sl 5 (Ty.int IntKind.u8)).prod Ty.unit)))).tree 98))], some [.hol (.int IntKind.i64), .hol (.int IntKind.i64), .hol .bool, .onl 5 (Ty.int IntKind.u8) 3080, .onl 98 (((Ty.int IntKind.i64).prod ((Ty.int IntKind.i64).prod (Ty.bool.prod ((Ty.sl 5 (Ty.int IntKind.u8)).prod Ty.unit)))).tree 98) 3082]]⟩, [(.exit 2, ⟨[.any, .any, .any, .any, .any, .any, .one (.ptr 6 0), .one (.onl 98 (((Ty.int IntKind.i64).prod ((Ty.int IntKind.i64).prod (Ty.bool.prod ((Ty.sl 5 (Ty.int IntKind.u8)).prod Ty.unit)))).tree 98) 15), .any, .any, .any, .any, .any, .any, .any, .any, .any, .any, .any, .any, .any, .any, .any, .any, .any, .any, .any, .any, .any, .any, .any, .any, .any, .any, .any, .any, .any, .any, .any, .any, .any, .any, .any, .any, .any, .any, .any, .any, .any, .any, .any, .any, .any, .any, .any, .any, .any, .any, .any, .any, .any, .any, .any, .any, .any, .any, .any, .any, .any, .any, .any, .any, .any, .any, .any, .any, .any, .any, .any, .any, .any, .any, .any, .any, .any, .any, .any, .any, .any, .any, .any, .any], [none, none, none, none, none, none, some [.hol (.int IntKind.i64), .hol (.int IntKind.i64), .hol .bool, .onl 5 (Ty.int IntKind.u8) 3080, .onl 98 (((Ty.int IntKind.i64).prod ((Ty.int IntKind.i64).prod (Ty.bool.prod ((Ty.sl 5 (Ty.int IntKind.u8)).prod Ty.unit)))).tree 98) 3082]]⟩)]⟩
-- FvFill_13 : lovFill_13.st.den → Tr (DenX lovFill_13.xs) | ((h51, (h52, (h53, (h54, ())))), ((h55, (h56, (h57, (h58, (h59, ()))))), ((h60, (h61, (h62, (h63, (h64, ()))))), ((h65, (h66, (h67, (h68, (h69, ()))))), ()))))
def FvFill_5 (d : lovFill_5.st.den) : Tr (DenX lovFill_5.xs) :=
  .ite (decide (d.1.2.2.1 = 0) && (decide (d.1.2.1.length = 0) && ((decide (d.2.1.2.2.2.2.1.length ≠ 0) && spArrs d.2.1.2.2.2.2.1) && (decide (spWts d.2.2.1.2.2.2.2.1 < spFuel) && decide (spWts d.2.2.1.2.2.2.2.1 ≤ 4294967296)))))
    (.ret (.ret ((), ((spFItems (d.2.1.2.2.2.2.1.headD (.mk ([], (0, (0, (0, ())))) [])) d.1.1 d.2.2.1.2.2.2.2.1, ()), (d.2.2.2.1, ()))))) .no
def FvFill_13 (d : lovFill_13.st.den) : Tr (DenX lovFill_13.xs) :=
  .ite ((decide (d.1.2.2.1 = 0) && decide (d.1.2.2.2.1 = 0)) && (decide (d.1.2.1.length = 0) && ((decide (d.2.1.2.2.2.2.1.length ≤ 16) && spArrs d.2.1.2.2.2.2.1) && (decide (spWts d.2.2.1.2.2.2.2.1 < spFuel) && decide (spWts d.2.2.1.2.2.2.2.1 ≤ 4294967296)))))
    (.ret (.ret ((), ((spFZip d.1.1 d.2.1.2.2.2.2.1 d.2.2.1.2.2.2.2.1, ()), (d.2.2.2.1, ()))))) .no
end
end
end Go.Proofs.YtjpeefegeobgfaaGreat.Sym
namespace Go.Proofs.YtjpeefegeobgfaaGreat.Sym
open Go
set_option linter.unusedSimpArgs false
set_option linter.unusedVariables false
noncomputable section
abbrev iotbOne : Io := ⟨[dS, dI, dI, dI], [], [], [dFld], none⟩
def FtbOne (d : iotbOne.In) : Tr iotbOne.Res := .ret (.ret ((.mk (d.1.1, (d.1.2.1, (d.1.2.2.1, (d.1.2.2.2.1, ())))) [], ()), ()))
abbrev cstbOne : List (Nat × Hc) := []
def hdtbOne : Hd := hdT cstbOne
def lptbOne : Lp := lpT []
def bodytbOne (a0 : List Int) (a1 : Int) (a2 : Int) (a3 : Int) : Option iotbOne.Res := some (Out.ret ((Tre.mk (a0, a1, a2, a3, ()) [], ()), ()))
theorem runtbOne (a0 : List Int) (a1 : Int) (a2 : Int) (a3 : Int) : Io.run tt hdtbOne dr lptbOne iotbOne Go.Proofs.Tryz.f168 ((a0, a1, a2, a3, ()), ()) = bodytbOne a0 a1 a2 a3 := by kernel_rfl
theorem oktbOne : HcOk prog 168 (ioHd iotbOne FtbOne) := by
  refine fn_sound (n := 400) hm (cs := cstbOne) HcsOk.nil (lp := lptbOne) (fn := Go.Proofs.Tryz.f168) (by kernel_rfl) (by kernel_rfl) (by kernel_rfl) iotbOne (.done (by kernel_rfl)) FtbOne ?_
  rintro ⟨⟨(a : List Int), (b : Int), (c : Int), (e : Int), ⟨⟩⟩, ⟨⟩⟩ out hw ho
  cases ho
  exact runtbOne a b c e
abbrev iotbTopics : Io := ⟨[dFlds], [], [], [dFld], none⟩
abbrev fld (s : List Int) (k lo hi : Int) (e : List Fd) : Fd := Tre.mk (s, (k, (lo, (hi, ())))) e
def spTopics (part : List Fd) : Fd := fld [116, 111, 112, 105, 99, 115] 9 0 3 [fld [116, 111, 112, 105, 99] 10 0 3 [fld [110, 97, 109, 101] 5 0 3 [], fld [112, 97, 114, 116, 115] 9 0 3 [fld [112, 97, 114, 116] 10 0 3 part]]]
def FtbTopics (d : iotbTopics.In) : Tr iotbTopics.Res := .ret (.ret ((spTopics d.1.1, ()), ()))
abbrev cstbTopics : List (Nat × Hc) := [(168, ioHd iotbOne FtbOne)]
def hdtbTopics : Hd := hdT cstbTopics
def lptbTopics : Lp := lpT []
def bodytbTopics (a0 : List tFld.den) : Option iotbTopics.Res := some (Out.ret ((Tre.mk ([116, 111, 112, 105, 99, 115], 9, 0, 3, ()) [Tre.mk ([116, 111, 112, 105, 99], 10, 0, 3, ()) [Tre.mk ([110, 97, 109, 101], 5, 0, 3, ()) [], Tre.mk ([112, 97, 114, 116, 115], 9, 0, 3, ()) [Tre.mk ([112, 97, 114, 116], 10, 0, 3, ()) a0]]], ()), ()))
theorem runtbTopics (a0 : List tFld.den) : Io.run tt hdtbTopics dr lptbTopics iotbTopics Go.Proofs.Tryz.f169 ((a0, ()), ()) = bodytbTopics a0 := by kernel_rfl
theorem oktbTopics : HcOk prog 169 (ioHd iotbTopics FtbTopics) := by
  refine fn_sound (n := 400) hm (cs := cstbTopics) (.cons oktbOne .nil) (lp := lptbTopics) (fn := Go.Proofs.Tryz.f169) (by kernel_rfl) (by kernel_rfl) (by kernel_rfl) iotbTopics (.done (by kernel_rfl)) FtbTopics ?_
  rintro ⟨⟨(a : List Fd), ⟨⟩⟩, ⟨⟩⟩ out hw ho
  cases ho
  exact runtbTopics a
abbrev iotbTable : Io := ⟨[d16, dB], [], [], [dFlds, dI], none⟩
def spT0q : List Fd := [fld [116, 120, 110] 6 3 3 [], fld [97, 99, 107, 115] 2 0 3 [], fld [119, 97, 105, 116] 3 0 3 [], spTopics [fld [105, 110, 100, 101, 120] 3 0 3 [], fld [114, 101, 99, 115] 8 0 3 []]]
def spT0p : List Fd := [spTopics [fld [105, 110, 100, 101, 120] 3 0 3 [], fld [99, 111, 100, 101] 2 0 3 [], fld [98, 97, 115, 101] 4 0 3 [], fld [116, 105, 109, 101] 4 2 3 [], fld [115, 116, 97, 114, 116] 4 3 3 []], fld [116, 104, 114, 111, 116, 116, 108, 101] 3 1 3 []]
def spT1q : List Fd := [fld [114, 101, 112, 108, 105, 99, 97] 3 0 3 [], fld [119, 97, 105, 116] 3 0 3 [], fld [109, 105, 110] 3 0 3 [], fld [109, 97, 120] 3 1 3 [], fld [108, 101, 118, 101, 108] 1 2 3 [], spTopics [fld [105, 110, 100, 101, 120] 3 0 3 [], fld [101, 112, 111, 99, 104] 3 3 3 [], fld [111, 102, 102, 115, 101, 116] 4 0 3 [], fld [109, 97, 120] 3 0 3 []]]
def spT1p : List Fd := [fld [116, 104, 114, 111, 116, 116, 108, 101] 3 1 3 [], spTopics [fld [105, 110, 100, 101, 120] 3 0 3 [], fld [99, 111, 100, 101] 2 0 3 [], fld [104, 105, 103, 104] 4 0 3 [], fld [115, 116, 97, 98, 108, 101] 4 2 3 [], fld [115, 116, 97, 114, 116] 4 3 3 [], fld [114, 101, 99, 115] 8 0 3 []]]
def spT2q : List Fd := [fld [114, 101, 112, 108, 105, 99, 97] 3 0 3 [], fld [108, 101, 118, 101, 108] 1 2 3 [], spTopics [fld [105, 110, 100, 101, 120] 3 0 3 [], fld [101, 112, 111, 99, 104] 3 3 3 [], fld [116, 105, 109, 101] 4 0 3 [], fld [109, 111, 115, 116] 3 0 0 []]]
def spT2p : List Fd := [fld [116, 104, 114, 111, 116, 116, 108, 101] 3 2 3 [], spTopics [fld [105, 110, 100, 101, 120] 3 0 3 [], fld [99, 111, 100, 101] 2 0 3 [], fld [111, 102, 102, 115, 101, 116, 115] 9 0 0 [fld [111, 102, 102, 115, 101, 116] 4 0 0 []], fld [116, 105, 109, 101] 4 1 3 [], fld [111, 102, 102, 115, 101, 116] 4 1 3 [], fld [101, 112, 111, 99, 104] 3 3 3 []]]
def spTab (k : Int) (r : Bool) : List Fd × Int :=
  if k = 0 then (if r = false then (spT0q, 0) else (spT0p, 0)) else if k = 1 then (if r = false then (spT1q, 0) else (spT1p, 0)) else if k = 2 then (if r = false then (spT2q, 0) else (spT2p, 0)) else ([], 160)
def FtbTable (d : iotbTable.In) : Tr iotbTable.Res := .ret (.ret (((spTab d.1.1 d.1.2.1).1, ((spTab d.1.1 d.1.2.1).2, ())), ()))
abbrev cstbTable : List (Nat × Hc) := [(168, ioHd iotbOne FtbOne), (169, ioHd iotbTopics FtbTopics)]
def hdtbTable : Hd := hdT cstbTable
def lptbTable : Lp := lpT []
def bodytbTable (a0 : Int) (a1 : Bool) : Option iotbTable.Res := bif a0 == 0 then bif !a1 then some (Out.ret (([Tre.mk ([116, 120, 110], 6, 3, 3, ()) [], Tre.mk ([97, 99, 107, 115], 2, 0, 3, ()) [], Tre.mk ([119, 97, 105, 116], 3, 0, 3, ()) [], Tre.mk ([116, 111, 112, 105, 99, 115], 9, 0, 3, ()) [Tre.mk ([116, 111, 112, 105, 99], 10, 0, 3, ()) [Tre.mk ([110, 97, 109, 101], 5, 0, 3, ()) [], Tre.mk ([112, 97, 114, 116, 115], 9, 0, 3, ()) [Tre.mk ([112, 97, 114, 116], 10, 0, 3, ()) [Tre.mk ([105, 110, 100, 101, 120], 3, 0, 3, ()) [], Tre.mk ([114, 101, 99, 115], 8, 0, 3, ()) []]]]]], 0, ()), ())) else bif a0 == 0 then some (Out.ret (([Tre.mk ([116, 111, 112, 105, 99, 115], 9, 0, 3, ()) [Tre.mk ([116, 111, 112, 105, 99], 10, 0, 3, ()) [Tre.mk ([110, 97, 109, 101], 5, 0, 3, ()) [], Tre.mk ([112, 97, 114, 116, 115], 9, 0, 3, ()) [Tre.mk ([112, 97, 114, 116], 10, 0, 3, ()) [Tre.mk ([105, 110, 100, 101, 120], 3, 0, 3, ()) [], Tre.mk ([99, 111, 100, 101], 2, 0, 3, ()) [], Tre.mk ([98, 97, 115, 101], 4, 0, 3, ()) [], Tre.mk ([116, 105, 109, 101], 4, 2, 3, ()) [], Tre.mk ([115, 116, 97, 114, 116], 4, 3, 3, ()) []]]]], Tre.mk ([116, 104, 114, 111, 116, 116, 108, 101], 3, 1, 3, ()) []], 0, ()), ())) else bif a0 == 1 then bif !a1 then some (Out.ret (([Tre.mk ([114, 101, 112, 108, 105, 99, 97], 3, 0, 3, ()) [], Tre.mk ([119, 97, 105, 116], 3, 0, 3, ()) [], Tre.mk ([109, 105, 110], 3, 0, 3, ()) [], Tre.mk ([109, 97, 120], 3, 1, 3, ()) [], Tre.mk ([108, 101, 118, 101, 108], 1, 2, 3, ()) [], Tre.mk ([116, 111, 112, 105, 99, 115], 9, 0, 3, ()) [Tre.mk ([116, 111, 112, 105, 99], 10, 0, 3, ()) [Tre.mk ([110, 97, 109, 101], 5, 0, 3, ()) [], Tre.mk ([112, 97, 114, 116, 115], 9, 0, 3, ()) [Tre.mk ([112, 97, 114, 116], 10, 0, 3, ()) [Tre.mk ([105, 110, 100, 101, 120], 3, 0, 3, ()) [], Tre.mk ([101, 112, 111, 99, 104], 3, 3, 3, ()) [], Tre.mk ([111, 102, 102, 115, 101, 116], 4, 0, 3, ()) [], Tre.mk ([109, 97, 120], 3, 0, 3, ()) []]]]]], 0, ()), ())) else bif a0 == 1 then some (Out.ret (([Tre.mk ([116, 104, 114, 111, 116, 116, 108, 101], 3, 1, 3, ()) [], Tre.mk ([116, 111, 112, 105, 99, 115], 9, 0, 3, ()) [Tre.mk ([116, 111, 112, 105, 99], 10, 0, 3, ()) [Tre.mk ([110, 97, 109, 101], 5, 0, 3, ()) [], Tre.mk ([112, 97, 114, 116, 115], 9, 0, 3, ()) [Tre.mk ([112, 97, 114, 116], 10, 0, 3, ()) [Tre.mk ([105, 110, 100, 101, 120], 3, 0, 3, ()) [], Tre.mk ([99, 111, 100, 101], 2, 0, 3, ()) [], Tre.mk ([104, 105, 103, 104], 4, 0, 3, ()) [], Tre.mk ([115, 116, 97, 98, 108, 101], 4, 2, 3, ()) [], Tre.mk ([115, 116, 97, 114, 116], 4, 3, 3, ()) [], Tre.mk ([114, 101, 99, 115], 8, 0, 3, ()) []]]]]], 0, ()), ())) else bif a0 == 2 then bif !a1 then some (Out.ret (([Tre.mk ([114, 101, 112, 108, 105, 99, 97], 3, 0, 3, ()) [], Tre.mk ([108, 101, 118, 101, 108], 1, 2, 3, ()) [], Tre.mk ([116, 111, 112, 105, 99, 115], 9, 0, 3, ()) [Tre.mk ([116, 111, 112, 105, 99], 10, 0, 3, ()) [Tre.mk ([110, 97, 109, 101], 5, 0, 3, ()) [], Tre.mk ([112, 97, 114, 116, 115], 9, 0, 3, ()) [Tre.mk ([112, 97, 114, 116], 10, 0, 3, ()) [Tre.mk ([105, 110, 100, 101, 120], 3, 0, 3, ()) [], Tre.mk ([101, 112, 111, 99, 104], 3, 3, 3, ()) [], Tre.mk ([116, 105, 109, 101], 4, 0, 3, ()) [], Tre.mk ([109, 111, 115, 116], 3, 0, 0, ()) []]]]]], 0, ()), ())) else bif a0 == 2 then some (Out.ret (([Tre.mk ([116, 104, 114, 111, 116, 116, 108, 101], 3, 2, 3, ()) [], Tre.mk ([116, 111, 112, 105, 99, 115], 9, 0, 3, ()) [Tre.mk ([116, 111, 112, 105, 99], 10, 0, 3, ()) [Tre.mk ([110, 97, 109, 101], 5, 0, 3, ()) [], Tre.mk ([112, 97, 114, 116, 115], 9, 0, 3, ()) [Tre.mk ([112, 97, 114, 116], 10, 0, 3, ()) [Tre.mk ([105, 110, 100, 101, 120], 3, 0, 3, ()) [], Tre.mk ([99, 111, 100, 101], 2, 0, 3, ()) [], Tre.mk ([111, 102, 102, 115, 101, 116, 115], 9, 0, 0, ()) [Tre.mk ([111, 102, 102, 115, 101, 116], 4, 0, 0, ()) []], Tre.mk ([116, 105, 109, 101], 4, 1, 3, ()) [], Tre.mk ([111, 102, 102, 115, 101, 116], 4, 1, 3, ()) [], Tre.mk ([101, 112, 111, 99, 104], 3, 3, 3, ()) []]]]]], 0, ()), ())) else some (Out.ret (([], 160, ()), ())) else bif a0 == 2 then some (Out.ret (([Tre.mk ([116, 104, 114, 111, 116, 116, 108, 101], 3, 2, 3, ()) [], Tre.mk ([116, 111, 112, 105, 99, 115], 9, 0, 3, ()) [Tre.mk ([116, 111, 112, 105, 99], 10, 0, 3, ()) [Tre.mk ([110, 97, 109, 101], 5, 0, 3, ()) [], Tre.mk ([112, 97, 114, 116, 115], 9, 0, 3, ()) [Tre.mk ([112, 97, 114, 116], 10, 0, 3, ()) [Tre.mk ([105, 110, 100, 101, 120], 3, 0, 3, ()) [], Tre.mk ([99, 111, 100, 101], 2, 0, 3, ()) [], Tre.mk ([111, 102, 102, 115, 101, 116, 115], 9, 0, 0, ()) [Tre.mk ([111, 102, 102, 115, 101, 116], 4, 0, 0, ()) []], Tre.mk ([116, 105, 109, 101], 4, 1, 3, ()) [], Tre.mk ([111, 102, 102, 115, 101, 116], 4, 1, 3, ()) [], Tre.mk ([101, 112, 111, 99, 104], 3, 3, 3, ()) []]]]]], 0, ()), ())) else some (Out.ret (([], 160, ()), ())) else bif a0 == 1 then some (Out.ret (([Tre.mk ([116, 104, 114, 111, 116, 116, 108, 101], 3, 1, 3, ()) [], Tre.mk ([116, 111, 112, 105, 99, 115], 9, 0, 3, ()) [Tre.mk ([116, 111, 112, 105, 99], 10, 0, 3, ()) [Tre.mk ([110, 97, 109, 101], 5, 0, 3, ()) [], Tre.mk ([112, 97, 114, 116, 115], 9, 0, 3, ()) [Tre.mk ([112, 97, 114, 116], 10, 0, 3, ()) [Tre.mk ([105, 110, 100, 101, 120], 3, 0, 3, ()) [], Tre.mk ([99, 111, 100, 101], 2, 0, 3, ()) [], Tre.mk ([104, 105, 103, 104], 4, 0, 3, ()) [], Tre.mk ([115, 116, 97, 98, 108, 101], 4, 2, 3, ()) [], Tre.mk ([115, 116, 97, 114, 116], 4, 3, 3, ()) [], Tre.mk ([114, 101, 99, 115], 8, 0, 3, ()) []]]]]], 0, ()), ())) else bif a0 == 2 then bif !a1 then some (Out.ret (([Tre.mk ([114, 101, 112, 108, 105, 99, 97], 3, 0, 3, ()) [], Tre.mk ([108, 101, 118, 101, 108], 1, 2, 3, ()) [], Tre.mk ([116, 111, 112, 105, 99, 115], 9, 0, 3, ()) [Tre.mk ([116, 111, 112, 105, 99], 10, 0, 3, ()) [Tre.mk ([110, 97, 109, 101], 5, 0, 3, ()) [], Tre.mk ([112, 97, 114, 116, 115], 9, 0, 3, ()) [Tre.mk ([112, 97, 114, 116], 10, 0, 3, ()) [Tre.mk ([105, 110, 100, 101, 120], 3, 0, 3, ()) [], Tre.mk ([101, 112, 111, 99, 104], 3, 3, 3, ()) [], Tre.mk ([116, 105, 109, 101], 4, 0, 3, ()) [], Tre.mk ([109, 111, 115, 116], 3, 0, 0, ()) []]]]]], 0, ()), ())) else bif a0 == 2 then some (Out.ret (([Tre.mk ([116, 104, 114, 111, 116, 116, 108, 101], 3, 2, 3, ()) [], Tre.mk ([116, 111, 112, 105, 99, 115], 9, 0, 3, ()) [Tre.mk ([116, 111, 112, 105, 99], 10, 0, 3, ()) [Tre.mk ([110, 97, 109, 101], 5, 0, 3, ()) [], Tre.mk ([112, 97, 114, 116, 115], 9, 0, 3, ()) [Tre.mk ([112, 97, 114, 116], 10, 0, 3, ()) [Tre.mk ([105, 110, 100, 101, 120], 3, 0, 3, ()) [], Tre.mk ([99, 111, 100, 101], 2, 0, 3, ()) [], Tre.mk ([111, 102, 102, 115, 101, 116, 115], 9, 0, 0, ()) [Tre.mk ([111, 102, 102, 115, 101, 116], 4, 0, 0, ()) []], Tre.mk ([116, 105, 109, 101], 4, 1, 3, ()) [], Tre.mk ([111, 102, 102, 115, 101, 116], 4, 1, 3, ()) [], Tre.mk ([101, 112, 111, 99, 104], 3, 3, 3, ()) []]]]]], 0, ()), ())) else some (Out.ret (([], 160, ()), ())) else bif a0 == 2 then some (Out.ret (([Tre.mk ([116, 104, 114, 111, 116, 116, 108, 101], 3, 2, 3, ()) [], Tre.mk ([116, 111, 112, 105, 99, 115], 9, 0, 3, ()) [Tre.mk ([116, 111, 112, 105, 99], 10, 0, 3, ()) [Tre.mk ([110, 97, 109, 101], 5, 0, 3, ()) [], Tre.mk ([112, 97, 114, 116, 115], 9, 0, 3, ()) [Tre.mk ([112, 97, 114, 116], 10, 0, 3, ()) [Tre.mk ([105, 110, 100, 101, 120], 3, 0, 3, ()) [], Tre.mk ([99, 111, 100, 101], 2, 0, 3, ()) [], Tre.mk ([111, 102, 102, 115, 101, 116, 115], 9, 0, 0, ()) [Tre.mk ([111, 102, 102, 115, 101, 116], 4, 0, 0, ()) []], Tre.mk ([116, 105, 109, 101], 4, 1, 3, ()) [], Tre.mk ([111, 102, 102, 115, 101, 116], 4, 1, 3, ()) [], Tre.mk ([101, 112, 111, 99, 104], 3, 3, 3, ()) []]]]]], 0, ()), ())) else some (Out.ret (([], 160, ()), ())) else bif a0 == 0 then some (Out.ret (([Tre.mk ([116, 111, 112, 105, 99, 115], 9, 0, 3, ()) [Tre.mk ([116, 111, 112, 105, 99], 10, 0, 3, ()) [Tre.mk ([110, 97, 109, 101], 5, 0, 3, ()) [], Tre.mk ([112, 97, 114, 116, 115], 9, 0, 3, ()) [Tre.mk ([112, 97, 114, 116], 10, 0, 3, ()) [Tre.mk ([105, 110, 100, 101, 120], 3, 0, 3, ()) [], Tre.mk ([99, 111, 100, 101], 2, 0, 3, ()) [], Tre.mk ([98, 97, 115, 101], 4, 0, 3, ()) [], Tre.mk ([116, 105, 109, 101], 4, 2, 3, ()) [], Tre.mk ([115, 116, 97, 114, 116], 4, 3, 3, ()) []]]]], Tre.mk ([116, 104, 114, 111, 116, 116, 108, 101], 3, 1, 3, ()) []], 0, ()), ())) else bif a0 == 1 then bif !a1 then some (Out.ret (([Tre.mk ([114, 101, 112, 108, 105, 99, 97], 3, 0, 3, ()) [], Tre.mk ([119, 97, 105, 116], 3, 0, 3, ()) [], Tre.mk ([109, 105, 110], 3, 0, 3, ()) [], Tre.mk ([109, 97, 120], 3, 1, 3, ()) [], Tre.mk ([108, 101, 118, 101, 108], 1, 2, 3, ()) [], Tre.mk ([116, 111, 112, 105, 99, 115], 9, 0, 3, ()) [Tre.mk ([116, 111, 112, 105, 99], 10, 0, 3, ()) [Tre.mk ([110, 97, 109, 101], 5, 0, 3, ()) [], Tre.mk ([112, 97, 114, 116, 115], 9, 0, 3, ()) [Tre.mk ([112, 97, 114, 116], 10, 0, 3, ()) [Tre.mk ([105, 110, 100, 101, 120], 3, 0, 3, ()) [], Tre.mk ([101, 112, 111, 99, 104], 3, 3, 3, ()) [], Tre.mk ([111, 102, 102, 115, 101, 116], 4, 0, 3, ()) [], Tre.mk ([109, 97, 120], 3, 0, 3, ()) []]]]]], 0, ()), ())) else bif a0 == 1 then some (Out.ret (([Tre.mk ([116, 104, 114, 111, 116, 116, 108, 101], 3, 1, 3, ()) [], Tre.mk ([116, 111, 112, 105, 99, 115], 9, 0, 3, ()) [Tre.mk ([116, 111, 112, 105, 99], 10, 0, 3, ()) [Tre.mk ([110, 97, 109, 101], 5, 0, 3, ()) [], Tre.mk ([112, 97, 114, 116, 115], 9, 0, 3, ()) [Tre.mk ([112, 97, 114, 116], 10, 0, 3, ()) [Tre.mk ([105, 110, 100, 101, 120], 3, 0, 3, ()) [], Tre.mk ([99, 111, 100, 101], 2, 0, 3, ()) [], Tre.mk ([104, 105, 103, 104], 4, 0, 3, ()) [], Tre.mk ([115, 116, 97, 98, 108, 101], 4, 2, 3, ()) [], Tre.mk ([115, 116, 97, 114, 116], 4, 3, 3, ()) [], Tre.mk ([114, 101, 99, 115], 8, 0, 3, ()) []]]]]], 0, ()), ())) else bif a0 == 2 then bif !a1 then some (Out.ret (([Tre.mk ([114, 101, 112, 108, 105, 99, 97], 3, 0, 3, ()) [], Tre.mk ([108, 101, 118, 101, 108], 1, 2, 3, ()) [], Tre.mk ([116, 111, 112, 105, 99, 115], 9, 0, 3, ()) [Tre.mk ([116, 111, 112, 105, 99], 10, 0, 3, ()) [Tre.mk ([110, 97, 109, 101], 5, 0, 3, ()) [], Tre.mk ([112, 97, 114, 116, 115], 9, 0, 3, ()) [Tre.mk ([112, 97, 114, 116], 10, 0, 3, ()) [Tre.mk ([105, 110, 100, 101, 120], 3, 0, 3, ()) [], Tre.mk ([101, 112, 111, 99, 104], 3, 3, 3, ()) [], Tre.mk ([116, 105, 109, 101], 4, 0, 3, ()) [], Tre.mk ([109, 111, 115, 116], 3, 0, 0, ()) []]]]]], 0, ()), ())) else bif a0 == 2 then some (Out.ret (([Tre.mk ([116, 104, 114, 111, 116, 116, 108, 101], 3, 2, 3, ()) [], Tre.mk ([116, 111, 112, 105, 99, 115], 9, 0, 3, ()) [Tre.mk ([116, 111, 112, 105, 99], 10, 0, 3, ()) [Tre.mk ([110, 97, 109, 101], 5, 0, 3, ()) [], Tre.mk ([112, 97, 114, 116, 115], 9, 0, 3, ()) [Tre.mk ([112, 97, 114, 116], 10, 0, 3, ()) [Tre.mk ([105, 110, 100, 101, 120], 3, 0, 3, ()) [], Tre.mk ([99, 111, 100, 101], 2, 0, 3, ()) [], Tre.mk ([111, 102, 102, 115, 101, 116, 115], 9, 0, 0, ()) [Tre.mk ([111, 102, 102, 115, 101, 116], 4, 0, 0, ()) []], Tre.mk ([116, 105, 109, 101], 4, 1, 3, ()) [], Tre.mk ([111, 102, 102, 115, 101, 116], 4, 1, 3, ()) [], Tre.mk ([101, 112, 111, 99, 104], 3, 3, 3, ()) []]]]]], 0, ()), ())) else some (Out.ret (([], 160, ()), ())) else bif a0 == 2 then some (Out.ret (([Tre.mk ([116, 104, 114, 111, 116, 116, 108, 101], 3, 2, 3, ()) [], Tre.mk ([116, 111, 112, 105, 99, 115], 9, 0, 3, ()) [Tre.mk ([116, 111, 112, 105, 99], 10, 0, 3, ()) [Tre.mk ([110, 97, 109, 101], 5, 0, 3, ()) [], Tre.mk ([112, 97, 114, 116, 115], 9, 0, 3, ()) [Tre.mk ([112, 97, 114, 116], 10, 0, 3, ()) [Tre.mk ([105, 110, 100, 101, 120], 3, 0, 3, ()) [], Tre.mk ([99, 111, 100, 101], 2, 0, 3, ()) [], Tre.mk ([111, 102, 102, 115, 101, 116, 115], 9, 0, 0, ()) [Tre.mk ([111, 102, 102, 115, 101, 116], 4, 0, 0, ()) []], Tre.mk ([116, 105, 109, 101], 4, 1, 3, ()) [], Tre.mk ([111, 102, 102, 115, 101, 116], 4, 1, 3, ()) [], Tre.mk ([101, 112, 111, 99, 104], 3, 3, 3, ()) []]]]]], 0, ()), ())) else some (Out.ret (([], 160, ()), ())) else bif a0 == 1 then some (Out.ret (([Tre.mk ([116, 104, 114, 111, 116, 116, 108, 101], 3, 1, 3, ()) [], Tre.mk ([116, 111, 112, 105, 99, 115], 9, 0, 3, ()) [Tre.mk ([116, 111, 112, 105, 99], 10, 0, 3, ()) [Tre.mk ([110, 97, 109, 101], 5, 0, 3, ()) [], Tre.mk ([112, 97, 114, 116, 115], 9, 0, 3, ()) [Tre.mk ([112, 97, 114, 116], 10, 0, 3, ()) [Tre.mk ([105, 110, 100, 101, 120], 3, 0, 3, ()) [], Tre.mk ([99, 111, 100, 101], 2, 0, 3, ()) [], Tre.mk ([104, 105, 103, 104], 4, 0, 3, ()) [], Tre.mk ([115, 116, 97, 98, 108, 101], 4, 2, 3, ()) [], Tre.mk ([115, 116, 97, 114, 116], 4, 3, 3, ()) [], Tre.mk ([114, 101, 99, 115], 8, 0, 3, ()) []]]]]], 0, ()), ())) else bif a0 == 2 then bif !a1 then some (Out.ret (([Tre.mk ([114, 101, 112, 108, 105, 99, 97], 3, 0, 3, ()) [], Tre.mk ([108, 101, 118, 101, 108], 1, 2, 3, ()) [], Tre.mk ([116, 111, 112, 105, 99, 115], 9, 0, 3, ()) [Tre.mk ([116, 111, 112, 105, 99], 10, 0, 3, ()) [Tre.mk ([110, 97, 109, 101], 5, 0, 3, ()) [], Tre.mk ([112, 97, 114, 116, 115], 9, 0, 3, ()) [Tre.mk ([112, 97, 114, 116], 10, 0, 3, ()) [Tre.mk ([105, 110, 100, 101, 120], 3, 0, 3, ()) [], Tre.mk ([101, 112, 111, 99, 104], 3, 3, 3, ()) [], Tre.mk ([116, 105, 109, 101], 4, 0, 3, ()) [], Tre.mk ([109, 111, 115, 116], 3, 0, 0, ()) []]]]]], 0, ()), ())) else bif a0 == 2 then some (Out.ret (([Tre.mk ([116, 104, 114, 111, 116, 116, 108, 101], 3, 2, 3, ()) [], Tre.mk ([116, 111, 112, 105, 99, 115], 9, 0, 3, ()) [Tre.mk ([116, 111, 112, 105, 99], 10, 0, 3, ()) [Tre.mk ([110, 97, 109, 101], 5, 0, 3, ()) [], Tre.mk ([112, 97, 114, 116, 115], 9, 0, 3, ()) [Tre.mk ([112, 97, 114, 116], 10, 0, 3, ()) [Tre.mk ([105, 110, 100, 101, 120], 3, 0, 3, ()) [], Tre.mk ([99, 111, 100, 101], 2, 0, 3, ()) [], Tre.mk ([111, 102, 102, 115, 101, 116, 115], 9, 0, 0, ()) [Tre.mk ([111, 102, 102, 115, 101, 116], 4, 0, 0, ()) []], Tre.mk ([116, 105, 109, 101], 4, 1, 3, ()) [], Tre.mk ([111, 102, 102, 115, 101, 116], 4, 1, 3, ()) [], Tre.mk ([101, 112, 111, 99, 104], 3, 3, 3, ()) []]]]]], 0, ()), ())) else some (Out.ret (([], 160, ()), ())) else bif a0 == 2 then some (Out.ret (([Tre.mk ([116, 104, 114, 111, 116, 116, 108, 101], 3, 2, 3, ()) [], Tre.mk ([116, 111, 112, 105, 99, 115], 9, 0, 3, ()) [Tre.mk ([116, 111, 112, 105, 99], 10, 0, 3, ()) [Tre.mk ([110, 97, 109, 101], 5, 0, 3, ()) [], Tre.mk ([112, 97, 114, 116, 115], 9, 0, 3, ()) [Tre.mk ([112, 97, 114, 116], 10, 0, 3, ()) [Tre.mk ([105, 110, 100, 101, 120], 3, 0, 3, ()) [], Tre.mk ([99, 111, 100, 101], 2, 0, 3, ()) [], Tre.mk ([111, 102, 102, 115, 101, 116, 115], 9, 0, 0, ()) [Tre.mk ([111, 102, 102, 115, 101, 116], 4, 0, 0, ()) []], Tre.mk ([116, 105, 109, 101], 4, 1, 3, ()) [], Tre.mk ([111, 102, 102, 115, 101, 116], 4, 1, 3, ()) [], Tre.mk ([101, 112, 111, 99, 104], 3, 3, 3, ()) []]]]]], 0, ()), ())) else some (Out.ret (([], 160, ()), ()))
theorem runtbTable (a0 : Int) (a1 : Bool) : Io.run tt hdtbTable dr lptbTable iotbTable Go.Proofs.Tryz.f134 ((a0, a1, ()), ()) = bodytbTable a0 a1 := by kernel_rfl
theorem oktbTable : HcOk prog 134 (ioHd iotbTable FtbTable) := by
  refine fn_sound (n := 400) hm (cs := cstbTable) (.cons oktbOne (.cons oktbTopics .nil)) (lp := lptbTable) (fn := Go.Proofs.Tryz.f134) (by kernel_rfl) (by kernel_rfl) (by kernel_rfl) iotbTable (.done (by kernel_rfl)) FtbTable ?_
  rintro ⟨⟨(k : Int), (r : Bool), ⟨⟩⟩, ⟨⟩⟩ out hw ho
  cases ho
  refine (runtbTable k r).trans ?_
  unfold bodytbTable
  show _ = some (Out.ret (((spTab k r).1, ((spTab k r).2, ())), ()))
  unfold spTab
  by_cases h0 : k = 0
  · subst h0
    cases r <;> rfl
  by_cases h1 : k = 1
  · subst h1
    cases r <;> rfl
  by_cases h2 : k = 2
  · subst h2
    cases r <;> rfl
  rw [if_neg h0, if_neg h1, if_neg h2]
  simp only [beq_eq_false_iff_ne.2 h0, beq_eq_false_iff_ne.2 h1, beq_eq_false_iff_ne.2 h2]
  cases r <;> rfl
theorem spTab_ok (k : Int) (r : Bool) : (spTab k r).2 = 0 → spArr (Tre.mk (([] : List Int), ((10 : Int), ((0 : Int), ((0 : Int), ())))) (spTab k r).1) = true := by
  unfold spTab
  intro h
  by_cases h0 : k = 0
  · subst h0
    cases r <;> (unfold spArr; rfl)
  by_cases h1 : k = 1
  · subst h1
    cases r <;> (unfold spArr; rfl)
  by_cases h2 : k = 2
  · subst h2
    cases r <;> (unfold spArr; rfl)
  rw [if_neg h0, if_neg h1, if_neg h2] at h
  cases h
theorem spWts_nil : spWts [] = 0 := by unfold spWts; rfl
theorem spCZip_nl (v : Int) (l : List Nd) : spCZip v [] l = ([], true) := by rw [spCZip]; simp
theorem spCZip_nr (v : Int) (fs : List Fd) : spCZip v fs [] = ([], true) := by rw [spCZip]; simp
theorem spCut_wt (v : Int) : ∀ (N : Nat) (f : Fd) (n : Nd), spWt n ≤ N → spWt (spCut f v n).1 ≤ spWt n := by
  intro N
  induction N with
  | zero => intro f n h; have := spWt_pos n; omega
  | succ N ih =>
    rintro f ⟨a, ks⟩ h
    rw [spWt_eq] at h
    rw [spCut]
    have hi : ∀ (f : Fd) (l : List Nd), (∀ k ∈ l, spWt k ≤ N) → spWts (spCItems f v l).1 ≤ spWts l := by
      intro f l
      induction l with
      | nil => intro _; rw [spCItems]; exact Nat.le_refl _
      | cons k l ihl =>
        intro hk
        rw [spCItems, spWts_cons, spWts_cons]
        have := ih f k (hk k (by simp))
        have := ihl fun k' hk' => hk k' (List.mem_cons_of_mem _ hk')
        omega
    have hz : ∀ (l : List Nd) (fs : List Fd), (∀ k ∈ l, spWt k ≤ N) → spWts (spCZip v fs l).1 ≤ spWts l := by
      intro l
      induction l with
      | nil => intro fs _; rw [spCZip_nr]; exact Nat.le_refl _
      | cons k l ihl =>
        intro fs hk
        cases fs with
        | nil => rw [spCZip_nl]; show spWts [] ≤ _; rw [spWts_nil]; exact Nat.zero_le _
        | cons f fs =>
          rw [spCZip, spWts_cons]
          have h1 := ih f k (hk k (by simp))
          have h2 := ihl fs fun k' hk' => hk k' (List.mem_cons_of_mem _ hk')
          split
          · rw [spWts_cons]; omega
          · show spWts (spCZip v fs l).1 ≤ _; omega
    have hks : ∀ k ∈ ks, spWt k ≤ N := fun k hk => by have := spWt_mem hk; simp only at h; omega
    split
    · rw [spWt_eq, spWt_eq]
      have := hi (f.kids.headD f) ks hks
      simp only [List.length_nil]; omega
    split
    · rw [spWt_eq, spWt_eq]
      have := hz ks f.kids hks
      simp only [List.length_nil]; omega
    · exact Nat.le_refl _
abbrev iotbEW : Io := ⟨[d16, dB, dI, dNode], [], [], [dL, dI], none⟩
def spEW (k : Int) (r : Bool) (v : Int) (n : Nd) : List Int × Int := if (spTab k r).2 ≠ 0 then ([], (spTab k r).2) else if v < 0 ∨ 3 < v then ([], 8) else
  if (spCut (Tre.mk (([] : List Int), ((10 : Int), ((0 : Int), ((0 : Int), ())))) (spTab k r).1) v n).2 = false then ([], 7) else spEnc (spTab k r).1 v (spCut (Tre.mk (([] : List Int), ((10 : Int), ((0 : Int), ((0 : Int), ())))) (spTab k r).1) v n).1
def FtbEW (d : iotbEW.In) : Tr iotbEW.Res := .ite (decide (8 * spWt d.1.2.2.2.1 ≤ 4294967296)) (.ret (.ret (((spEW d.1.1 d.1.2.1 d.1.2.2.1 d.1.2.2.2.1).1, ((spEW d.1.1 d.1.2.1 d.1.2.2.1 d.1.2.2.2.1).2, ())), ()))) .no
abbrev cstbEW : List (Nat × Hc) := [(134, ioHd iotbTable FtbTable), (135, ioHd iovCut FvCut), (136, ioHd iovEncode FvEncode)]
def hdtbEW : Hd := hdT cstbEW
def lptbEW : Lp := lpT []
def bodytbEW (a0 : Int) (a1 : Bool) (a2 : Int) (a3 : Nd) : Option iotbEW.Res := bif (spTab a0 a1).snd != 0 then some (Out.ret (([], (spTab a0 a1).snd, ()), ())) else bif decide (a2 < 0) then some (Out.ret (([], 8, ()), ())) else bif decide (3 < a2) then some (Out.ret (([], 8, ()), ())) else bif spArr (Tre.mk ([], 10, 0, 0, ()) (spTab a0 a1).fst) && decide (spWt (Tre.mk a3.1 a3.2) ≤ 4294967296) then bif !(spCut (Tre.mk ([], 10, 0, 0, ()) (spTab a0 a1).fst) a2 (Tre.mk a3.1 a3.2)).snd then some (Out.ret (([], 7, ()), ())) else bif decide (8 * spWt (Tre.mk (spCut (Tre.mk ([], 10, 0, 0, ()) (spTab a0 a1).fst) a2 (Tre.mk a3.1 a3.2)).fst.1 (spCut (Tre.mk ([], 10, 0, 0, ()) (spTab a0 a1).fst) a2 (Tre.mk a3.1 a3.2)).fst.2) ≤ 4294967296) then some (Out.ret (((spEnc (spTab a0 a1).fst a2 (Tre.mk (spCut (Tre.mk ([], 10, 0, 0, ()) (spTab a0 a1).fst) a2 (Tre.mk a3.1 a3.2)).fst.1 (spCut (Tre.mk ([], 10, 0, 0, ()) (spTab a0 a1).fst) a2 (Tre.mk a3.1 a3.2)).fst.2)).fst, (spEnc (spTab a0 a1).fst a2 (Tre.mk (spCut (Tre.mk ([], 10, 0, 0, ()) (spTab a0 a1).fst) a2 (Tre.mk a3.1 a3.2)).fst.1 (spCut (Tre.mk ([], 10, 0, 0, ()) (spTab a0 a1).fst) a2 (Tre.mk a3.1 a3.2)).fst.2)).snd, ()), ())) else none else none
theorem runtbEW (a0 : Int) (a1 : Bool) (a2 : Int) (a3 : Nd) : Io.run tt hdtbEW dr lptbEW iotbEW Go.Proofs.Tryz.f53 ((a0, a1, a2, a3, ()), ()) = bodytbEW a0 a1 a2 a3 := by kernel_rfl
theorem oktbEW : HcOk prog 53 (ioHd iotbEW FtbEW) := by
  refine fn_sound (n := 400) hm (cs := cstbEW) (.cons oktbTable (.cons okvCut (.cons okvEncode .nil))) (lp := lptbEW) (fn := Go.Proofs.Tryz.f53) (by kernel_rfl) (by kernel_rfl) (by kernel_rfl) iotbEW (.done (by kernel_rfl)) FtbEW ?_
  rintro ⟨⟨(k : Int), (r : Bool), (v : Int), (n : Nd), ⟨⟩⟩, ⟨⟩⟩ out hw ho
  obtain ⟨hg, ho⟩ := Tr.guard ho
  have hb : 8 * spWt n ≤ 4294967296 := of_decide_eq_true hg
  cases ho
  refine (runtbEW k r v n).trans ?_
  unfold bodytbEW
  show _ = some (Out.ret (((spEW k r v n).1, ((spEW k r v n).2, ())), ()))
  unfold spEW
  have hok := spTab_ok k r
  generalize spTab k r = t at hok ⊢
  obtain ⟨tb, te⟩ := t
  have hok : te = 0 → spArr (Tre.mk (([] : List Int), ((10 : Int), ((0 : Int), ((0 : Int), ())))) tb) = true := hok
  by_cases h1 : te = 0
  · rw [if_neg (by simpa using h1)]
    refine (bif_false (by simpa using h1) _ _).trans ?_
    by_cases h2 : v < 0
    · rw [if_pos (.inl h2)]
      exact bif_true (decide_eq_true h2) _ _
    refine (bif_false (decide_eq_false h2) _ _).trans ?_
    by_cases h3 : 3 < v
    · rw [if_pos (.inr h3)]
      exact bif_true (decide_eq_true h3) _ _
    refine (bif_false (decide_eq_false h3) _ _).trans ?_
    rw [if_neg (by omega)]
    obtain ⟨nl, nk⟩ := n
    refine (bif_true (show (spArr (Tre.mk (([] : List Int), ((10 : Int), ((0 : Int), ((0 : Int), ())))) tb) && decide (spWt (Tre.mk nl nk) ≤ 4294967296)) = true by rw [hok h1]; simp; omega) _ _).trans ?_
    have hcw := spCut_wt v _ (Tre.mk (([] : List Int), ((10 : Int), ((0 : Int), ((0 : Int), ())))) tb) (Tre.mk nl nk) (Nat.le_refl _)
    show (bif !(spCut (Tre.mk (([] : List Int), ((10 : Int), ((0 : Int), ((0 : Int), ())))) tb) v (Tre.mk nl nk)).2 then _ else _) = _
    by_cases h4 : (spCut (Tre.mk (([] : List Int), ((10 : Int), ((0 : Int), ((0 : Int), ())))) tb) v (Tre.mk nl nk)).2 = false
    · rw [if_pos h4]
      exact bif_true (by rw [h4]; rfl) _ _
    · rw [if_neg h4]
      refine (bif_false (by simpa using h4) _ _).trans ?_
      generalize (spCut (Tre.mk (([] : List Int), ((10 : Int), ((0 : Int), ((0 : Int), ())))) tb) v (Tre.mk nl nk)).1 = c at hcw ⊢
      obtain ⟨cl, ck⟩ := c
      exact bif_true (decide_eq_true (show 8 * spWt (Tre.mk cl ck) ≤ 4294967296 by omega)) _ _
  · rw [if_pos h1]
    exact bif_true (by simpa using h1) _ _
end
end Go.Proofs.YtjpeefegeobgfaaGreat.Sym
namespace Go.Proofs.YtjpeefegeobgfaaGreat.Sym
open Go
set_option linter.unusedSimpArgs false
set_option linter.unusedVariables false
noncomputable section
abbrev ndNum (k n : Int) : Nd := .mk (k, (n, (false, (([] : List Int), ())))) []
abbrev ndText (s : List Int) : Nd := .mk (5, (0, (false, (s, ())))) []
abbrev ndRow (l : List Nd) : Nd := .mk (10, (0, (false, (([] : List Int), ())))) l
abbrev ndRows (l : List Nd) : Nd := .mk (9, (0, (false, (([] : List Int), ())))) l
theorem i64_i32 {n : Int} (h : inR .i32 n) : IntKind.i64.wrap n = n := by
  simp only [inR, IntKind.min, IntKind.max, IntKind.signed, IntKind.bits] at h
  simp at h
  exact wrap_i64 (by omega) (by omega)
theorem i64_i16 {n : Int} (h : inR .i16 n) : IntKind.i64.wrap n = n := by
  simp only [inR, IntKind.min, IntKind.max, IntKind.signed, IntKind.bits] at h
  simp at h
  exact wrap_i64 (by omega) (by omega)
theorem spWts_kids (n : Nd) : spWts n.kids ≤ spWt n := by rw [spWt_eq]; omega
theorem spAt_wt (n : Nd) (i : Int) : spWt (spAt n i) ≤ spWt n := by
  unfold spAt
  split
  · rename_i h
    have hlt : i.toNat < n.kids.length := by omega
    rw [getD_lt hlt]
    have := spWt_mem (List.getElem_mem hlt)
    have := spWts_kids n
    omega
  · have := spWt_pos n
    have h0 := spWts_nil
    rw [spWt_eq (Tre.mk _ _)]
    show 1 + 0 + spWts [] ≤ spWt n
    omega
-- FzFullReq_8 : lozFullReq_8.st.den → Tr (DenX lozFullReq_8.xs) | ((h17, (h18, (h19, (h20, ())))), ((h21, (h22, (h23, (h24, (h25, ()))))), ((h26, (h27, (h28, (h29, (h30, ()))))), ())))
-- FzFullReq_4 : lozFullReq_4.st.den → Tr (DenX lozFullReq_4.xs) | ((h5, (h6, ())), ((h7, (h8, (h9, (h10, (h11, ()))))), ((h12, (h13, (h14, (h15, (h16, ()))))), ())))
-- FzReqOf_10 : lozReqOf_10.st.den → Tr (DenX lozReqOf_10.xs) | ((h13, (h14, (h15, (h16, ())))), ((h17, (h18, (h19, (h20, (h21, ()))))), ((h22, (h23, (h24, (h25, (h26, ()))))), ((h27, (h28, ())), ()))))
-- FzReqOf_5 : lozReqOf_5.st.den → Tr (DenX lozReqOf_5.xs) | ((h1, (h2, ())), ((h3, (h4, (h5, (h6, (h7, ()))))), ((h8, (h9, (h10, (h11, (h12, ()))))), ())))
-- FzFullRep_8 : lozFullRep_8.st.den → Tr (DenX lozFullRep_8.xs) | ((h11, (h12, (h13, (h14, ())))), ((h15, (h16, ())), ((h17, (h18, (h19, (h20, (h21, ()))))), ())))
-- FzFullRep_4 : lozFullRep_4.st.den → Tr (DenX lozFullRep_4.xs) | ((h2, (h3, ())), ((h4, (h5, ())), ((h6, (h7, (h8, (h9, (h10, ()))))), ())))
-- FzRepOf_10 : lozRepOf_10.st.den → Tr (DenX lozRepOf_10.xs) | ((h7, (h8, (h9, (h10, ())))), ((h11, (h12, ())), ((h13, (h14, ())), ((h15, (h16, ())), ()))))
-- FzRepOf_5 : lozRepOf_5.st.den → Tr (DenX lozRepOf_5.xs) | ((h1, (h2, ())), ((h3, (h4, ())), ((h5, (h6, ())), ())))
end
end Go.Proofs.YtjpeefegeobgfaaGreat.Sym
namespace Go.Proofs.YtjpeefegeobgfaaGreat.Sym
open Go
set_option linter.unusedSimpArgs false
set_option linter.unusedVariables false
noncomputable section
theorem i32_id {n : Int} (h : inR .i32 n) : IntKind.i32.wrap n = n := by
  simp only [inR, IntKind.min, IntKind.max, IntKind.signed, IntKind.bits] at h
  exact wrap_id (by simp [inR, IntKind.min, IntKind.max, IntKind.signed, IntKind.bits]; simpa using h)
theorem i16_id {n : Int} (h : inR .i16 n) : IntKind.i16.wrap n = n := by
  simp only [inR, IntKind.min, IntKind.max, IntKind.signed, IntKind.bits] at h
  exact wrap_id (by simp [inR, IntKind.min, IntKind.max, IntKind.signed, IntKind.bits]; simpa using h)
theorem map_id_of {α : Type} {f : α → α} {l : List α} (h : ∀ x ∈ l, f x = x) : l.map f = l := by
  conv => rhs; rw [← List.map_id l]
  exact List.map_congr_left h
open Classical in
def spEqT {α : Type} (a b : α) : Bool := if a = b then true else false
theorem spEqT_iff {α : Type} {a b : α} : spEqT a b = true ↔ a = b := by unfold spEqT; split <;> simp_all
end
end Go.Proofs.YtjpeefegeobgfaaGreat.Sym
namespace Go.Proofs.YtjpeefegeobgfaaGreat.Sym
open Go
set_option linter.unusedSimpArgs false
set_option linter.unusedVariables false
noncomputable section
def spSeq (a b : List Int × Int) : List Int × Int := if a.2 ≠ 0 then ([], a.2) else if b.2 ≠ 0 then ([], b.2) else (a.1 ++ b.1, 0)
mutual
def spW (f : Fd) (v : Int) : Nd → List Int × Int
  | .mk a ks => if f.lab.2.1 = 9 then (if 16 < ks.length then ([], 9) else spSeq (spBE ks.length 4, 0) (spWItems (f.kids.headD f) v ks)) else if f.lab.2.1 = 10 then spWZip v f.kids ks else spVal f v (.mk a ks)
termination_by n => (SizeOf.sizeOf n, 0)
def spWItems (f : Fd) (v : Int) : List Nd → List Int × Int
  | [] => ([], 0)
  | k :: ks => spSeq (spW f v k) (spWItems f v ks)
termination_by l => (SizeOf.sizeOf l, 0)
def spWZip (v : Int) : List Fd → List Nd → List Int × Int
  | f :: fs, k :: ks => if spHas f v = true then spSeq (spW f v k) (spWZip v fs ks) else spWZip v fs ks
  | _, _ => ([], 0)
termination_by fs l => (SizeOf.sizeOf l, 0)
end
mutual
def spWhole (f : Fd) : Nd → Prop
  | .mk a ks => (f.lab.2.1 = 9 → spWholes (f.kids.headD f) ks) ∧ (f.lab.2.1 = 10 → ks.length = f.kids.length ∧ spWholeZ f.kids ks)
termination_by n => (SizeOf.sizeOf n, 0)
def spWholes (f : Fd) : List Nd → Prop
  | [] => True
  | k :: ks => spWhole f k ∧ spWholes f ks
termination_by l => (SizeOf.sizeOf l, 0)
def spWholeZ : List Fd → List Nd → Prop
  | f :: fs, k :: ks => spWhole f k ∧ spWholeZ fs ks
  | _, _ => True
termination_by fs l => (SizeOf.sizeOf l, 0)
end
theorem spWZip_nl (v : Int) (l : List Nd) : spWZip v [] l = ([], 0) := by rw [spWZip]; simp
theorem spVZip_nl (v : Int) (l : List Nd) : spVZip v [] l = ([], 0) := by rw [spVZip]; simp
theorem spCItems_len (f : Fd) (v : Int) : ∀ ks : List Nd, (spCItems f v ks).1.length = ks.length
  | [] => by rw [spCItems]
  | k :: ks => by rw [spCItems, List.length_cons, List.length_cons, spCItems_len f v ks]
theorem spHere_cons (f : Fd) (fs : List Fd) (v : Int) : spHere (f :: fs) v = if spHas f v = true then f :: spHere fs v else spHere fs v := by
  unfold spHere; rw [List.filter_cons]
theorem spCZip_len (v : Int) : ∀ (fs : List Fd) (ks : List Nd), ks.length = fs.length → (spCZip v fs ks).1.length = (spHere fs v).length
  | [], ks, _ => by rw [spCZip_nl]; rfl
  | f :: fs, [], h => by simp at h
  | f :: fs, k :: ks, h => by
    have ih := spCZip_len v fs ks (by simpa using h)
    rw [spCZip, spHere_cons]
    split
    · rw [List.length_cons, List.length_cons, ih]
    · exact ih
theorem spSh_row (k : Int) (l : List Nd) (h : 8 < k) : spShN k (Tre.mk (k, (0, (false, (([] : List Int), ())))) l) = true := by
  unfold spShN
  simp; omega
theorem spW_cut (v : Int) : ∀ (N : Nat) (f : Fd) (n : Nd), spWt n ≤ N → spWhole f n → spVal f v (spCut f v n).1 = spW f v n := by
  intro N
  induction N with
  | zero => intro f n h; have := spWt_pos n; omega
  | succ N ih =>
    rintro f ⟨a, ks⟩ h hw
    rw [spWt_eq] at h
    have hks : ∀ k ∈ ks, spWt k ≤ N := fun k hk => by have := spWt_mem hk; simp only at h; omega
    rw [spWhole] at hw
    rw [spCut, spW]
    have hi : ∀ (f : Fd) (l : List Nd), (∀ k ∈ l, spWt k ≤ N) → spWholes f l → spVItems f v (spCItems f v l).1 = spWItems f v l := by
      intro f l
      induction l with
      | nil => intro _ _; rw [spCItems, spVItems, spWItems]
      | cons k l ihl =>
        intro hk hw
        rw [spWholes] at hw
        rw [spCItems, spVItems, spWItems, ih f k (hk k (by simp)) hw.1, ihl (fun k' hk' => hk k' (List.mem_cons_of_mem _ hk')) hw.2]
        rfl
    have hz : ∀ (l : List Nd) (fs : List Fd), (∀ k ∈ l, spWt k ≤ N) → l.length = fs.length → spWholeZ fs l → spVZip v (spHere fs v) (spCZip v fs l).1 = spWZip v fs l := by
      intro l
      induction l with
      | nil =>
        intro fs _ hl _
        cases fs with
        | nil => rw [spCZip_nl, spWZip_nl]; exact spVZip_nl _ _
        | cons f fs => simp at hl
      | cons k l ihl =>
        intro fs hk hl hw
        cases fs with
        | nil => simp at hl
        | cons f fs =>
          rw [spWholeZ] at hw
          have ih2 := ihl fs (fun k' hk' => hk k' (List.mem_cons_of_mem _ hk')) (by simpa using hl) hw.2
          rw [spCZip, spWZip, spHere_cons]
          by_cases hh : spHas f v = true
          · rw [if_pos hh, if_pos hh, if_pos hh, spVZip, ih f k (hk k (by simp)) hw.1, ih2]
            rfl
          · rw [if_neg hh, if_neg hh, if_neg hh]
            exact ih2
    by_cases h9 : f.lab.2.1 = 9
    · rw [if_pos h9, if_pos h9, spVal, h9, spSh_row 9 _ (by omega)]
      rw [if_neg (by decide), if_neg (by decide), if_pos rfl, spCItems_len, hi _ ks hks (hw.1 h9)]
      split
      · rfl
      · unfold spSeq; simp
    · rw [if_neg h9, if_neg h9]
      by_cases h10 : f.lab.2.1 = 10
      · rw [if_pos h10, if_pos h10, spVal, h10, spSh_row 10 _ (by omega)]
        rw [if_neg (by decide), if_neg (by decide), if_neg (by decide), if_pos rfl, spVParts, spCZip_len v _ _ (hw.2 h10).1, if_neg (by simp), hz ks _ hks (hw.2 h10).1 (hw.2 h10).2]
      · rw [if_neg h10, if_neg h10]
theorem spEW_eq {k : Int} {r : Bool} {v : Int} {t : List Fd} {ks : List Nd} (ht : spTab k r = (t, 0)) (hc : spChk t = 0) (hl : ks.length = t.length) (hw : spWholeZ t ks) :
    spEW k r v (ndRow ks) = if v < 0 ∨ 3 < v then ([], 8) else if (spCZip v t ks).2 = false then ([], 7) else if (spWZip v t ks).2 ≠ 0 then ([], (spWZip v t ks).2) else if 130048 < (spWZip v t ks).1.length then ([], 4) else ((spWZip v t ks).1, 0) := by
  have hd : spWhole (Tre.mk (([] : List Int), ((10 : Int), ((0 : Int), ((0 : Int), ())))) t) (ndRow ks) := by
    rw [spWhole]
    exact ⟨fun h => absurd (show (10 : Int) = 9 from h) (by decide), fun _ => ⟨hl, hw⟩⟩
  have hcut := spW_cut v _ _ _ (Nat.le_refl _) hd
  have ecut : spCut (Tre.mk (([] : List Int), ((10 : Int), ((0 : Int), ((0 : Int), ())))) t) v (ndRow ks) = (ndRow (spCZip v t ks).1, (spCZip v t ks).2) := by
    rw [spCut]; exact (if_neg (show ¬ ((10 : Int) = 9) by decide)).trans (if_pos rfl)
  have eW : spW (Tre.mk (([] : List Int), ((10 : Int), ((0 : Int), ((0 : Int), ())))) t) v (ndRow ks) = spWZip v t ks := by
    rw [spW]; exact (if_neg (show ¬ ((10 : Int) = 9) by decide)).trans (if_pos rfl)
  have eV : ∀ l, spVal (Tre.mk (([] : List Int), ((10 : Int), ((0 : Int), ((0 : Int), ())))) t) v (ndRow l) = spVParts t v (ndRow l) := fun l => by
    rw [spVal]
    refine (if_neg ?_).trans ((if_neg (show ¬ (10 : Int) ≤ 4 by decide)).trans ((if_neg (show ¬ (10 : Int) = 9 by decide)).trans (if_pos rfl)))
    show ¬ spShN 10 (ndRow l) = false
    rw [spSh_row 10 _ (by omega)]; decide
  rw [eW, ecut, eV] at hcut
  unfold spEW
  rw [ht]
  simp only
  rw [if_neg (by simp)]
  by_cases hv : v < 0 ∨ 3 < v
  · rw [if_pos hv, if_pos hv]
  rw [if_neg hv, if_neg hv, ecut]
  by_cases h7 : (spCZip v t ks).2 = false
  · rw [if_pos h7, if_pos h7]
  rw [if_neg h7, if_neg h7]
  unfold spEnc
  have hb : spBeg t v = 0 := by unfold spBeg; rw [if_neg hv, hc]
  rw [hb, spSh_row 10 _ (by omega), if_neg (by simp), if_neg (by decide), hcut]
def Wri (r : List Int × Int) (f : EnS → EnS) : Prop := ∀ s : EnS, s.2.2.length ≤ 130048 →
  (s.1 ≠ 0 → (f s).1 = s.1) ∧ (s.1 = 0 → (f s).1 = r.2) ∧ ((f s).1 = 0 → (((f s).2.1 = false ↔ s.2.1 = false ∧ s.2.2.length + r.1.length ≤ 130048) ∧ ((f s).2.1 = false → (f s).2.2 = s.2.2 ++ r.1))) ∧ (f s).2.2.length ≤ 130048
theorem Wri.seq {r1 r2 : List Int × Int} {f g : EnS → EnS} (hf : Wri r1 f) (hg : Wri r2 g) : Wri (spSeq r1 r2) fun s => g (f s) := by
  intro s hs
  obtain ⟨f1, f2, f3, f4⟩ := hf s hs
  obtain ⟨g1, g2, g3, g4⟩ := hg (f s) f4
  unfold spSeq
  refine ⟨fun h => ?_, fun h => ?_, fun h => ?_, g4⟩
  · have := f1 h
    rw [g1 (by rw [this]; exact h), this]
  · have := f2 h
    by_cases h1 : r1.2 = 0
    · rw [g2 (by rw [this]; exact h1)]
      by_cases h2 : r2.2 = 0
      · simp [h1, h2]
      · simp [h1, h2]
    · rw [g1 (by rw [this]; exact h1), this]
      simp [h1]
  · by_cases h0 : (f s).1 = 0
    · have hs0 : s.1 = 0 := by
        rcases Classical.em (s.1 = 0) with h' | h'
        · exact h'
        · rw [f1 h'] at h0; exact absurd h0 h'
      have h1 : r1.2 = 0 := by rw [← f2 hs0]; exact h0
      have h2 : r2.2 = 0 := by rw [← g2 h0]; exact h
      obtain ⟨a1, a2⟩ := f3 h0
      obtain ⟨b1, b2⟩ := g3 h
      simp only [h1, h2, ne_eq, not_true_eq_false, if_false, List.length_append]
      constructor
      · constructor
        · intro hx
          obtain ⟨c1, c2⟩ := b1.1 hx
          obtain ⟨c3, c4⟩ := a1.1 c1
          rw [a2 c1, List.length_append] at c2
          exact ⟨c3, by omega⟩
        · rintro ⟨c1, c2⟩
          have c3 := a1.2 ⟨c1, by omega⟩
          exact b1.2 ⟨c3, by rw [a2 c3, List.length_append]; omega⟩
      · intro hx
        have c1 := (b1.1 hx).1
        rw [b2 hx, a2 c1, List.append_assoc]
    · rw [g1 h0] at h; exact absurd h h0
theorem Wri.fail {e : Int} (he : e ≠ 0) : Wri ([], e) (spFail e) := by
  intro s hs
  unfold spFail
  refine ⟨fun h => by rw [if_neg h], fun h => by rw [if_pos h], fun h => ?_, by split <;> exact hs⟩
  split at h
  · exact absurd h he
  · rename_i h'; exact absurd h h'
theorem Wri.put (x : Int) (n : Nat) : Wri (spBE x n, 0) (spPutE x n) := by
  intro s hs
  refine ⟨fun h => by unfold spPutE; split <;> rfl, fun h => by unfold spPutE; split <;> exact h, fun h => ?_, spPutE_le _ _ hs⟩
  unfold spPutE
  rw [spBE_len]
  split
  · constructor
    · constructor
      · intro h'; cases h'
      · rintro ⟨_, h'⟩; omega
    · intro h'; cases h'
  · constructor
    · constructor
      · intro h'; exact ⟨h', by omega⟩
      · rintro ⟨h', _⟩; exact h'
    · intro _; rfl
theorem Wri.raw (p : List Int) : Wri (p, 0) (spRawE p) := by
  intro s hs
  refine ⟨fun h => by unfold spRawE; split <;> rfl, fun h => by unfold spRawE; split <;> exact h, fun h => ?_, spRawE_le _ hs⟩
  have hp : (p, (0 : Int)).1.length = p.length := rfl
  rw [hp]
  unfold spRawE
  split
  · constructor
    · constructor
      · intro h'; cases h'
      · rintro ⟨_, h'⟩; omega
    · intro h'; cases h'
  · constructor
    · constructor
      · intro h'; exact ⟨h', by omega⟩
      · rintro ⟨h', _⟩; exact h'
    · intro _; rfl
theorem Wri.ofEq {r r' : List Int × Int} {f : EnS → EnS} (h : Wri r f) (e : r = r') : Wri r' f := e ▸ h
theorem Wri.nop : Wri ([], 0) fun s => s := by
  intro s hs
  exact ⟨fun _ => rfl, fun h => h, fun _ => ⟨⟨fun h => ⟨h, by simpa using hs⟩, fun h => h.1⟩, fun _ => by simp⟩, hs⟩
def spTxt (t : List Int) : List Int × Int := if (spUtf t).2 = false then ([], 6) else if 255 < t.length then ([], 4) else (spBE t.length 2 ++ t, 0)
theorem Wri.str (t : List Int) : Wri (spTxt t) (spStrE t) := by
  unfold spTxt
  by_cases h1 : (spUtf t).2 = false
  · rw [if_pos h1]
    have : spStrE t = spFail 6 := funext fun s => by unfold spStrE; rw [if_pos h1]
    rw [this]; exact Wri.fail (by decide)
  · rw [if_neg h1]
    by_cases h2 : 255 < t.length
    · rw [if_pos h2]
      have : spStrE t = spFail 4 := funext fun s => by unfold spStrE; rw [if_neg h1, if_pos (by omega)]
      rw [this]; exact Wri.fail (by decide)
    · rw [if_neg h2]
      have : spStrE t = fun s => spRawE t (spPutE t.length 2 s) := funext fun s => by unfold spStrE; rw [if_neg h1, if_neg (by omega)]
      rw [this]
      exact ((Wri.put _ _).seq (Wri.raw _)).ofEq (by unfold spSeq; simp)
def spNam (n : Bool × (List Int × Unit)) : List Int × Int := if n.1 = true then (if n.2.1.length = 0 then (spBE (-1) 2, 0) else ([], 70)) else spTxt n.2.1
theorem Wri.name (n : Bool × (List Int × Unit)) : Wri (spNam n) (spNameE n) := by
  unfold spNam
  by_cases h1 : n.1 = true
  · rw [if_pos h1]
    by_cases h2 : n.2.1 = []
    · rw [if_pos (by rw [h2]; rfl)]
      have : spNameE n = spPutE (-1) 2 := funext fun s => by unfold spNameE; rw [if_neg (fun h => h.2 h2), if_pos h1]
      rw [this]; exact Wri.put _ _
    · rw [if_neg (fun h => h2 (List.eq_nil_of_length_eq_zero h))]
      have : spNameE n = spFail 70 := funext fun s => by unfold spNameE; rw [if_pos ⟨h1, h2⟩]
      rw [this]; exact Wri.fail (by decide)
  · rw [if_neg h1]
    have : spNameE n = spStrE n.2.1 := funext fun s => by unfold spNameE; rw [if_neg (fun h => h1 h.1), if_neg h1]
    rw [this]; exact Wri.str _
def spBlo (n : Bool × (List Int × Unit)) : List Int × Int := if n.1 = true then (if n.2.1.length = 0 then (spBE (-1) 4, 0) else ([], 70)) else (spBE n.2.1.length 4 ++ n.2.1, 0)
theorem Wri.blob (n : Bool × (List Int × Unit)) (hn : n.2.1.length ≤ 2147483647) : Wri (spBlo n) (spBlobE n) := by
  unfold spBlo
  by_cases h1 : n.1 = true
  · rw [if_pos h1]
    by_cases h2 : n.2.1.length = 0
    · rw [if_pos h2]
      have : spBlobE n = spPutE (-1) 4 := funext fun s => by unfold spBlobE; rw [if_neg (fun h => by omega), if_pos h1]
      rw [this]; exact Wri.put _ _
    · rw [if_neg h2]
      have : spBlobE n = spFail 70 := funext fun s => by unfold spBlobE; rw [if_pos ⟨h1, by omega⟩]
      rw [this]; exact Wri.fail (by decide)
  · rw [if_neg h1]
    have hwr : IntKind.i32.wrap (n.2.1.length : Int) = n.2.1.length := wrap_id (by simp [inR, IntKind.min, IntKind.max, IntKind.signed, IntKind.bits]; omega)
    have : spBlobE n = fun s => spRawE n.2.1 (spPutE n.2.1.length 4 s) := funext fun s => by unfold spBlobE; rw [if_neg (fun h => h1 h.1), if_neg h1, hwr]
    rw [this]
    exact ((Wri.put _ _).seq (Wri.raw _)).ofEq (by unfold spSeq; simp)
def spAll {α : Type} (one : α → List Int × Int) : List α → List Int × Int
  | [] => ([], 0)
  | x :: xs => spSeq (one x) (spAll one xs)
theorem Wri.fold {α : Type} {one : α → List Int × Int} {f : α → EnS → EnS} : ∀ {xs : List α}, (∀ x ∈ xs, Wri (one x) (f x)) → Wri (spAll one xs) fun s => xs.foldl (fun s x => f x s) s
  | [], _ => Wri.nop
  | x :: xs, h => (h x (by simp)).seq (Wri.fold fun y hy => h y (List.mem_cons_of_mem _ hy))
def spArrW {α : Type} (one : α → List Int × Int) (xs : List α) : List Int × Int := if 16 < xs.length then ([], 9) else spSeq (spBE xs.length 4, 0) (spAll one xs)
theorem Wri.items {α : Type} {one : α → List Int × Int} {f : α → EnS → EnS} {xs : List α} (h : ∀ x ∈ xs, Wri (one x) (f x)) : Wri (spArrW one xs) (spItems f xs) := by
  unfold spArrW
  by_cases h1 : 16 < xs.length
  · rw [if_pos h1]
    have : spItems f xs = spFail 9 := funext fun s => by unfold spItems; rw [if_pos (by omega)]
    rw [this]; exact Wri.fail (by decide)
  · rw [if_neg h1]
    have : spItems f xs = fun s => xs.foldl (fun s x => f x s) (spPutE xs.length 4 s) := funext fun s => by unfold spItems; rw [if_neg (by omega)]
    rw [this]
    exact (Wri.put _ _).seq (Wri.fold h)
theorem Wri.hasE (v lo hi x : Int) (n : Nat) : Wri (if lo ≤ v ∧ v ≤ hi then (spBE x n, 0) else ([], 0)) (spHasE v lo hi x n) := by
  by_cases h : lo ≤ v ∧ v ≤ hi
  · rw [if_pos h]
    have : spHasE v lo hi x n = spPutE x n := funext fun s => by unfold spHasE; rw [if_pos h]
    rw [this]; exact Wri.put _ _
  · rw [if_neg h]
    have : spHasE v lo hi x n = fun s => s := funext fun s => by unfold spHasE; rw [if_neg h]
    rw [this]; exact Wri.nop
theorem Wri.done {r : List Int × Int} {f : EnS → EnS} (h : Wri r f) (e : Int) : (spDoneO (f (e, (false, []))), spDoneE (f (e, (false, [])))) = if e ≠ 0 then ([], e) else if r.2 ≠ 0 then ([], r.2) else if 130048 < r.1.length then ([], 4) else (r.1, 0) := by
  obtain ⟨h1, h2, h3, _⟩ := h (e, (false, [])) (by simp)
  by_cases he : e = 0
  · subst he
    have h2 := h2 rfl
    by_cases hr : r.2 = 0
    · have h0 : (f (0, (false, []))).1 = 0 := by rw [h2]; exact hr
      obtain ⟨h4, h5⟩ := h3 h0
      have h4 : (f (0, (false, []))).2.1 = false ↔ r.1.length ≤ 130048 :=
        ⟨fun hx => by have := (h4.1 hx).2; simpa using this, fun hx => h4.2 ⟨rfl, by simpa using hx⟩⟩
      by_cases hl : 130048 < r.1.length
      · have hf : (f (0, (false, []))).2.1 = true := by
          cases hx : (f (0, (false, []))).2.1 with
          | true => rfl
          | false => have := h4.1 hx; omega
        simp [spDoneO, spDoneE, h0, hf, hr, hl]
      · have hf := h4.2 (by omega)
        have h6 := h5 hf
        simp [spDoneO, spDoneE, h0, hf, hr, hl, h6]
    · have h0 : ¬ (f (0, (false, []))).1 = 0 := by rw [h2]; exact hr
      simp [spDoneO, spDoneE, h2, hr]
  · have h1 := h1 he
    simp [spDoneO, spDoneE, h1, he]
end
end Go.Proofs.YtjpeefegeobgfaaGreat.Sym
namespace Go.Proofs.YtjpeefegeobgfaaGreat.Sym
open Go
set_option linter.unusedSimpArgs false
set_option linter.unusedVariables false
noncomputable section
theorem spFits_i16 {n : Int} (h : inR .i16 n) : spFits n 2 = true := by
  simp only [inR, IntKind.min, IntKind.max, IntKind.signed, IntKind.bits] at h
  simp at h
  unfold spFits
  rw [if_neg (by decide), if_pos]
  simp; omega
theorem spFits_i32 {n : Int} (h : inR .i32 n) : spFits n 4 = true := by
  simp only [inR, IntKind.min, IntKind.max, IntKind.signed, IntKind.bits] at h
  simp at h
  unfold spFits
  rw [if_neg (by decide), if_pos]
  simp; omega
theorem spFits_i64 (n : Int) : spFits n 8 = true := by unfold spFits; rw [if_pos (by decide)]
theorem spW_leaf {nm : List Int} {k lo hi : Int} {e : List Fd} {v : Int} {n : Nd} (h9 : k ≠ 9) (h10 : k ≠ 10) : spW (fld nm k lo hi e) v n = spVal (fld nm k lo hi e) v n := by
  obtain ⟨a, ks⟩ := n
  rw [spW]
  exact (if_neg h9).trans (if_neg h10)
theorem spCut_leaf {nm : List Int} {k lo hi : Int} {e : List Fd} {v : Int} {n : Nd} (h9 : k ≠ 9) (h10 : k ≠ 10) : (spCut (fld nm k lo hi e) v n).2 = true := by
  obtain ⟨a, ks⟩ := n
  rw [spCut]
  exact congrArg Prod.snd ((if_neg h9).trans (if_neg h10))
theorem spWhole_leaf {nm : List Int} {k lo hi : Int} {e : List Fd} {n : Nd} (h9 : k ≠ 9) (h10 : k ≠ 10) : spWhole (fld nm k lo hi e) n := by
  obtain ⟨a, ks⟩ := n
  rw [spWhole]
  exact ⟨fun h => absurd h h9, fun h => absurd h h10⟩
theorem spSh_num {k n : Int} (h : k < 5) : spShN k (ndNum k n) = true := by
  unfold spShN
  simp; omega
theorem spW_num {nm : List Int} {k lo hi n w : Int} {e : List Fd} {v : Int} (hk : k ≤ 4) (hw : spWid k = w) (hf : spFits n w = true) : spW (fld nm k lo hi e) v (ndNum k n) = (spBE n w.toNat, 0) := by
  rw [spW_leaf (by omega) (by omega), spVal]
  refine (if_neg ?_).trans ((if_pos hk).trans ?_)
  · show ¬ spShN k (ndNum k n) = false
    rw [spSh_num (by omega)]; decide
  · show (if spFits n (spWid k) = true then _ else _) = _
    rw [hw, if_pos hf]
theorem spW_text {nm : List Int} {lo hi : Int} {e : List Fd} {v : Int} (s : List Int) : spW (fld nm 5 lo hi e) v (ndText s) = spTxt s := by
  rw [spW_leaf (by decide) (by decide), spVal]
  refine (if_neg ?_).trans ((if_neg (show ¬ (5 : Int) ≤ 4 by decide)).trans ((if_neg (show ¬ (5 : Int) = 9 by decide)).trans ((if_neg (show ¬ (5 : Int) = 10 by decide)).trans ((if_neg (show ¬ (false = true) by decide)).trans ?_))))
  · show ¬ spShN 5 (ndText s) = false
    unfold spShN; simp
  · unfold spTxt
    by_cases h1 : (spUtf s).2 = false
    · rw [if_pos h1]; exact if_pos ⟨(show (5 : Int) ≤ 6 by decide), h1⟩
    · rw [if_neg h1]
      refine (if_neg (fun h => h1 h.2)).trans ?_
      by_cases h2 : 255 < s.length
      · rw [if_pos h2]; exact if_pos ⟨(show (5 : Int) ≤ 6 by decide), h2⟩
      · rw [if_neg h2]; exact if_neg (fun h => h2 h.2)
theorem spW_rows {α : Type} {nm : List Int} {lo hi : Int} {g : Fd} {v : Int} (F : α → Nd) (l : List α) : spW (fld nm 9 lo hi [g]) v (ndRows (l.map F)) = spArrW (fun x => spW g v (F x)) l := by
  rw [spW]
  refine (if_pos rfl).trans ?_
  unfold spArrW
  have : ∀ l : List α, spWItems g v (l.map F) = spAll (fun x => spW g v (F x)) l := by
    intro l
    induction l with
    | nil => rw [List.map_nil, spWItems]; rfl
    | cons x l ih => rw [List.map_cons, spWItems, ih]; rfl
  rw [List.length_map]
  show (if 16 < l.length then _ else spSeq _ (spWItems g v (l.map F))) = _
  rw [this]
theorem spW_row {nm : List Int} {lo hi : Int} {fs : List Fd} {v : Int} (ks : List Nd) : spW (fld nm 10 lo hi fs) v (ndRow ks) = spWZip v fs ks := by
  rw [spW]; exact (if_neg (show ¬ ((10 : Int) = 9) by decide)).trans (if_pos rfl)
theorem spCut_rows {α : Type} {nm : List Int} {lo hi : Int} {g : Fd} {v : Int} (F : α → Nd) (l : List α) : (spCut (fld nm 9 lo hi [g]) v (ndRows (l.map F))).2 = l.all fun x => (spCut g v (F x)).2 := by
  rw [spCut]
  refine (congrArg Prod.snd (if_pos rfl)).trans ?_
  show (spCItems g v (l.map F)).2 = _
  induction l with
  | nil => rw [List.map_nil, spCItems]; rfl
  | cons x l ih => rw [List.map_cons, spCItems, List.all_cons, ih]
theorem spCut_row {nm : List Int} {lo hi : Int} {fs : List Fd} {v : Int} (ks : List Nd) : (spCut (fld nm 10 lo hi fs) v (ndRow ks)).2 = (spCZip v fs ks).2 := by
  rw [spCut]; exact congrArg Prod.snd ((if_neg (show ¬ ((10 : Int) = 9) by decide)).trans (if_pos rfl))
theorem spWhole_rows {α : Type} {nm : List Int} {lo hi : Int} {g : Fd} (F : α → Nd) (l : List α) (h : ∀ x, spWhole g (F x)) : spWhole (fld nm 9 lo hi [g]) (ndRows (l.map F)) := by
  rw [spWhole]
  refine ⟨fun _ => ?_, fun h => absurd (show (9 : Int) = 10 from h) (by decide)⟩
  show spWholes g (l.map F)
  induction l with
  | nil => rw [List.map_nil, spWholes]; trivial
  | cons x l ih => rw [List.map_cons, spWholes]; exact ⟨h x, ih⟩
theorem spWhole_row {nm : List Int} {lo hi : Int} {fs : List Fd} {ks : List Nd} (hl : ks.length = fs.length) (h : spWholeZ fs ks) : spWhole (fld nm 10 lo hi fs) (ndRow ks) := by
  rw [spWhole]
  exact ⟨fun h => absurd (show (10 : Int) = 9 from h) (by decide), fun _ => ⟨hl, h⟩⟩
theorem spWhole_nil : spWholeZ [] [] := by rw [spWholeZ]; trivial; simp
theorem spWhole_cons {f : Fd} {fs : List Fd} {k : Nd} {ks : List Nd} (h1 : spWhole f k) (h2 : spWholeZ fs ks) : spWholeZ (f :: fs) (k :: ks) := by rw [spWholeZ]; exact ⟨h1, h2⟩
theorem spWZ_has {f : Fd} {fs : List Fd} {k : Nd} {ks : List Nd} {v : Int} (h : spHas f v = true) : spWZip v (f :: fs) (k :: ks) = spSeq (spW f v k) (spWZip v fs ks) := by rw [spWZip, if_pos h]
theorem spWZ_not {f : Fd} {fs : List Fd} {k : Nd} {ks : List Nd} {v : Int} (h : spHas f v = false) : spWZip v (f :: fs) (k :: ks) = spWZip v fs ks := by rw [spWZip, if_neg (by rw [h]; decide)]
theorem spCZ_has {f : Fd} {fs : List Fd} {k : Nd} {ks : List Nd} {v : Int} (h : spHas f v = true) : (spCZip v (f :: fs) (k :: ks)).2 = ((spCut f v k).2 && (spCZip v fs ks).2) := by rw [spCZip, if_pos h]
theorem spCZ_not {f : Fd} {fs : List Fd} {k : Nd} {ks : List Nd} {v : Int} (h : spHas f v = false) : (spCZip v (f :: fs) (k :: ks)).2 = (spZeroN k && (spCZip v fs ks).2) := by rw [spCZip, if_neg (by rw [h]; decide)]
theorem spHas_in {nm : List Int} {k lo hi v : Int} {e : List Fd} (h1 : lo ≤ v) (h2 : v ≤ hi) : spHas (fld nm k lo hi e) v = true := if_pos ⟨h1, h2⟩
theorem spHas_out {nm : List Int} {k lo hi v : Int} {e : List Fd} (h : v < lo ∨ hi < v) : spHas (fld nm k lo hi e) v = false := if_neg (by show ¬ (lo ≤ v ∧ v ≤ hi); omega)
theorem spCZ_opt {nm : List Int} {k lo hi : Int} {e fs : List Fd} {n : Nd} {ks : List Nd} {v : Int} : (spCZip v (fld nm k lo hi e :: fs) (n :: ks)).2 = ((if lo ≤ v ∧ v ≤ hi then (spCut (fld nm k lo hi e) v n).2 else spZeroN n) && (spCZip v fs ks).2) := by
  by_cases h : lo ≤ v ∧ v ≤ hi
  · rw [if_pos h, spCZ_has (spHas_in h.1 h.2)]
  · rw [if_neg h, spCZ_not (spHas_out (by omega))]
theorem spCZ_nil {v : Int} : (spCZip v [] []).2 = true := by rw [spCZip_nl]
theorem spZero_num {k n : Int} : spZeroN (ndNum k n) = (n == 0) := by unfold spZeroN; by_cases h : n = 0 <;> simp [h]
def okF : Nat → Int → Fd → Bool
  | 0, _, _ => false
  | n + 1, d, .mk a ks => !(decide (a.1.length = 0)) && (!(decide (a.2.2.1 < 0)) && (!(decide (3 < a.2.2.2.1)) && (!(decide (a.2.2.2.1 < a.2.2.1)) && (!(decide (a.2.1 < 1)) && (!(decide (10 < a.2.1)) &&
      (if a.2.1 < 9 then decide (ks.length = 0) else
        (!(decide (ks.length < 1)) && (!(decide (16 < ks.length)) && (!(decide (8 < d + 1)) && (spDist ks 0 ks && ks.all fun k => okF n (d + 1) k)))) && (spVers ks 5 a.2.2.1 a.2.2.2.1 && (decide (a.2.1 = 10) || decide (ks.length = 1)))))))))
theorem spFieldsOk_all {d : Int} : ∀ {l : List Fd}, (∀ k ∈ l, spFieldOk d k = true) → spFieldsOk d l = true
  | [], _ => by rw [spFieldsOk]
  | k :: l, h => by rw [spFieldsOk, h k (by simp), spFieldsOk_all (l := l) fun k' hk' => h k' (List.mem_cons_of_mem _ hk')]; rfl
theorem okF_sound : ∀ (n : Nat) (d : Int) (f : Fd), okF n d f = true → spFieldOk d f = true
  | 0, _, _, h => by cases h
  | n + 1, d, .mk a ks, h => by
    rw [okF] at h
    simp only [Bool.and_eq_true, Bool.not_eq_true', decide_eq_false_iff_not] at h
    obtain ⟨h1, h2, h3, h4, h5, h6, h7⟩ := h
    rw [spFieldOk, if_neg h1, if_neg h2, if_neg h3, if_neg h4, if_neg h5, if_neg h6]
    by_cases h9 : a.2.1 < 9
    · rw [if_pos h9] at h7 ⊢
      rw [if_pos (of_decide_eq_true h7)]
    · rw [if_neg h9] at h7 ⊢
      simp only [Bool.and_eq_true, Bool.not_eq_true', decide_eq_false_iff_not, Bool.or_eq_true, decide_eq_true_eq, List.all_eq_true] at h7
      obtain ⟨⟨g1, g2, g3, g4, g5⟩, g6, g7⟩ := h7
      have hl : spListOk (d + 1) ks = true := by
        rw [spListOk, if_neg g1, if_neg g2, if_neg g3, g4, spFieldsOk_all fun k hk => okF_sound n _ k (g5 k hk)]; rfl
      rw [hl, if_neg (by decide), g6, if_neg (by decide)]
      split
      · rfl
      · rename_i h10
        rw [if_pos (g7.resolve_left h10)]
theorem spChk_of {t : List Fd} (h : (!(decide (t.length < 1)) && (!(decide (16 < t.length)) && (spDist t 0 t && t.all fun k => okF 9 1 k))) = true) : spChk t = 0 := by
  simp only [Bool.and_eq_true, Bool.not_eq_true', decide_eq_false_iff_not, List.all_eq_true] at h
  obtain ⟨g1, g2, g4, g5⟩ := h
  unfold spChk
  rw [if_pos]
  rw [spListOk, if_neg g1, if_neg g2, if_neg (by decide), g4, spFieldsOk_all fun k hk => okF_sound 9 _ k (g5 k hk)]; rfl
theorem spChk_2p : spChk spT2p = 0 := spChk_of rfl
end
end Go.Proofs.YtjpeefegeobgfaaGreat.Sym
namespace Go.Proofs.YtjpeefegeobgfaaGreat.Sym
open Go
set_option linter.unusedSimpArgs false
set_option linter.unusedVariables false
noncomputable section
theorem spEW_len (k : Int) (r : Bool) (v : Int) (n : Nd) : (spEW k r v n).1.length ≤ 130048 := by
  unfold spEW spEnc
  repeat' split
  all_goals first | (simp; done) | (dsimp only; omega)
theorem spLacks_first {e v lo hi : Int} {z : Bool} : spLacks v z lo hi (e, (false, ([] : List Int))) = ((if e ≠ 0 then e else if z = false ∧ (v < lo ∨ hi < v) then 7 else 0), (false, [])) := by
  unfold spLacks spFail
  by_cases h : z = false ∧ (v < lo ∨ hi < v)
  · rw [if_pos h]
    by_cases he : e = 0
    · simp [he, h]
    · simp [he]
  · rw [if_neg h]
    by_cases he : e = 0
    · simp [he, h]
    · simp [he]
def wPart (p : tPart.den) : List Int × Int := spSeq (spBE p.1 4, 0) (spSeq (spBlo p.2.1) ([], 0))
theorem Wri.part (p : tPart.den) (h : partOk p = true) : Wri (wPart p) (spPartE p) := (Wri.put _ _).seq ((Wri.blob _ (of_decide_eq_true h)).seq Wri.nop)
theorem spArrW_congr {α : Type} {f g : α → List Int × Int} {l : List α} (h : ∀ x ∈ l, f x = g x) : spArrW f l = spArrW g l := by
  have : spAll f l = spAll g l := by
    induction l with
    | nil => rfl
    | cons x l ih =>
      rw [spAll, spAll, h x (by simp), ih fun y hy => h y (List.mem_cons_of_mem _ hy)]
  unfold spArrW
  rw [this]
theorem Wri.opt {r : List Int × Int} {g : EnS → EnS} (v lo hi x : Int) (n : Nat) (hg : Wri r g) : Wri (if lo ≤ v ∧ v ≤ hi then spSeq (spBE x n, 0) r else r) (fun s => g (spHasE v lo hi x n s)) := by
  by_cases h : lo ≤ v ∧ v ≤ hi
  · rw [if_pos h]
    have : (fun s => g (spHasE v lo hi x n s)) = fun s => g (spPutE x n s) := funext fun s => by unfold spHasE; rw [if_pos h]
    rw [this]; exact (Wri.put x n).seq hg
  · rw [if_neg h]
    have : (fun s => g (spHasE v lo hi x n s)) = g := funext fun s => by unfold spHasE; rw [if_neg h]
    rw [this]; exact hg
def wDone (v : Int) (p : tDone.den) : List Int × Int := spSeq (spBE p.1 4, 0) (spSeq (spBE p.2.1 2, 0) (spSeq (spBE p.2.2.1 8, 0)
  (if 2 ≤ v ∧ v ≤ 3 then spSeq (spBE p.2.2.2.1 8, 0) (if 3 ≤ v ∧ v ≤ 3 then spSeq (spBE p.2.2.2.2.1 8, 0) ([], 0) else ([], 0)) else (if 3 ≤ v ∧ v ≤ 3 then spSeq (spBE p.2.2.2.2.1 8, 0) ([], 0) else ([], 0)))))
def okDone (v : Int) (p : tDone.den) : Bool := (if 2 ≤ v ∧ v ≤ 3 then true else (p.2.2.2.1 == 0)) && (if 3 ≤ v ∧ v ≤ 3 then true else (p.2.2.2.2.1 == 0))
def spLk (e : Int) (ok : Bool) : Int := if e ≠ 0 then e else if ok = false then 7 else 0
theorem spLk_and (e : Int) (a b : Bool) : spLk (spLk e a) b = spLk e (a && b) := by
  unfold spLk
  by_cases he : e = 0
  · subst he; cases a <;> cases b <;> simp
  · simp [he]
theorem spLk_true (e : Int) : spLk e true = e := by unfold spLk; by_cases h : e = 0 <;> simp [h]
theorem spLacks_lk {e v lo hi : Int} {z : Bool} : spLacks v z lo hi (e, (false, ([] : List Int))) = (spLk e (if lo ≤ v ∧ v ≤ hi then true else z), (false, [])) := by
  rw [spLacks_first]
  unfold spLk
  by_cases he : e = 0
  · subst he
    by_cases h : lo ≤ v ∧ v ≤ hi
    · rw [if_pos h]
      have : ¬ (z = false ∧ (v < lo ∨ hi < v)) := by rintro ⟨_, h'⟩; omega
      simp [this]
    · rw [if_neg h]
      have : v < lo ∨ hi < v := by omega
      simp [this]
  · simp [he]
theorem HcOk.weakW {f : Nat} {io : Io} {Fn Fn' : io.In → Tr io.Res} (h : HcOk prog f (ioHd io Fn)) (hF : ∀ d y, io.wf d → (Fn' d).val = some y → (Fn d).val = some y) : HcOk prog f (ioHd io Fn') := by
  intro R args id A K r F G ts cst w vals hid hc Rl hv
  unfold ioHd at hc
  cases h1 : mVs io.args args (List.replicate io.obs.length Option.none) with
  | none => rw [h1] at hc; cases hc
  | some p =>
    obtain ⟨a, β1⟩ := p
    rw [h1] at hc
    simp only at hc
    cases h2 : mOb A.ob io.obs 0 β1 with
    | none => rw [h2] at hc; cases hc
    | some q =>
      obtain ⟨o, β⟩ := q
      rw [h2] at hc
      simp only at hc
      have hn := fun y => hF (a, o) y ⟨mVs_wf h1 hv, mOb_wf Rl.ob h2⟩
      refine h R args id A K r F G ts cst w vals hid ?_ Rl hv
      unfold ioHd
      rw [h1]
      simp only [h2]
      revert hc
      cases nodupB ((owVs (idTmp 0) io.args args 0 ++ owOb A.ob β (bnId io.obs.length 0) io.obs 0).map (·.2)) && (nodupB ((owVs (idTmp 0) io.args args 0 ++ owOb A.ob β (bnId io.obs.length 0) io.obs 0).map (·.1)) && io.ok) with
      | false => intro hc; cases hc
      | true =>
        intro hc
        obtain ⟨out, ho, hk⟩ := Tr.run_val hc
        exact (Tr.val_run (hn out ho)).trans hk
--@alias qReqR leat/produce.EncodeReq
--@alias rRepR leat/produce.EncodeRep
end
end Go.Proofs.YtjpeefegeobgfaaGreat.Sym
namespace Go.Proofs.YtjpeefegeobgfaaGreat.Sym
open Go
set_option linter.unusedSimpArgs false
set_option linter.unusedVariables false
noncomputable section
theorem foldl_BE (x : Int) : ∀ (n : Nat) (v : Int), (spBE x n).foldl (fun v c => v * 256 + c) v = v * 256 ^ n + x % 256 ^ n
  | 0, v => by simp [spBE]
  | n + 1, v => by
    rw [spBE, List.foldl_cons, foldl_BE x n]
    have h1 : x % 256 ^ (n + 1) = x % 256 ^ n + 256 ^ n * ((x / 256 ^ n) % 256) := by
      have hq : (0 : Int) < 256 ^ n := Int.pow_pos (by decide)
      rw [Int.pow_succ]
      have hx := Int.emod_add_mul_ediv x (256 ^ n)
      have hy := Int.emod_add_mul_ediv (x / 256 ^ n) 256
      have h1 := Int.emod_nonneg x (Int.ne_of_gt hq)
      have h2 := Int.emod_lt_of_pos x hq
      have h3 : 0 ≤ (x / 256 ^ n) % 256 := Int.emod_nonneg _ (by decide)
      have h4 : (x / 256 ^ n) % 256 < 256 := Int.emod_lt_of_pos _ (by decide)
      generalize x % 256 ^ n = r at hx h1 h2 ⊢
      generalize hd : x / 256 ^ n = d at hx hy h3 h4 ⊢
      generalize d % 256 = c at hy h3 h4 ⊢
      generalize d / 256 = e at hy
      generalize (256 : Int) ^ n = q at hq hx h2 ⊢
      refine ((Int.ediv_emod_unique (q := e) (by omega)).2 ⟨?_, ?_, ?_⟩).2
      · rw [← hx, ← hy, Int.mul_add, Int.mul_assoc]; omega
      · have := Int.mul_nonneg (Int.le_of_lt hq) h3; omega
      · have : q * c ≤ q * 255 := Int.mul_le_mul_of_nonneg_left (by omega) (Int.le_of_lt hq); omega
    rw [h1, Int.pow_succ, Int.add_mul, Int.mul_assoc, Int.mul_comm 256 (256 ^ n), Int.mul_comm ((x / 256 ^ n) % 256)]
    omega
theorem spBEv_BE (x : Int) (n : Nat) : spBEv (spBE x n) = x % 256 ^ n := by
  unfold spBEv
  rw [foldl_BE]; omega
theorem wrapBE_i16 {x : Int} (h : inR .i16 x) : IntKind.i16.wrap (spBEv (spBE x 2)) = x := by
  rw [spBEv_BE]
  simp only [inR, IntKind.min, IntKind.max, IntKind.signed, IntKind.bits] at h
  simp at h
  simp [IntKind.wrap, IntKind.min, IntKind.max, IntKind.signed, IntKind.bits]
  omega
theorem wrapBE_i32 {x : Int} (h : inR .i32 x) : IntKind.i32.wrap (spBEv (spBE x 4)) = x := by
  rw [spBEv_BE]
  simp only [inR, IntKind.min, IntKind.max, IntKind.signed, IntKind.bits] at h
  simp at h
  simp [IntKind.wrap, IntKind.min, IntKind.max, IntKind.signed, IntKind.bits]
  omega
theorem wrapBE_i64 {x : Int} (h : inR .i64 x) : IntKind.i64.wrap (spBEv (spBE x 8)) = x := by
  rw [spBEv_BE]
  simp only [inR, IntKind.min, IntKind.max, IntKind.signed, IntKind.bits] at h
  simp at h
  simp [IntKind.wrap, IntKind.min, IntKind.max, IntKind.signed, IntKind.bits]
  omega
structure Rea {α : Type} (b : List Int) (x : α) (r : List Int) (f : DeS → α × DeS) : Prop where
  full : ∀ (p : Nat) (rest : List Int), p ≤ b.length → b.drop p = r ++ rest → f (0, (p : Int)) = (x, (0, ((p + r.length : Nat) : Int)))
  short : ∀ (p : Nat) (t : List Int), p ≤ b.length → t ≠ [] → b.drop p ++ t = r → (f (0, (p : Int))).2.1 = 1
  dead : ∀ s, s.1 ≠ 0 → (f s).2.1 = s.1
theorem drop_len {b r rest : List Int} {p : Nat} (hp : p ≤ b.length) (h : b.drop p = r ++ rest) : p + r.length ≤ b.length ∧ b.drop (p + r.length) = rest := by
  have h1 := congrArg List.length h
  simp only [List.length_drop, List.length_append] at h1
  refine ⟨by omega, ?_⟩
  rw [← List.drop_drop, h, List.drop_left]
theorem Rea.seq {α β γ : Type} {b r1 r2 : List Int} {x : α} {y : β} {f : DeS → α × DeS} {g : DeS → β × DeS} (c : α → β → γ) (hf : Rea b x r1 f) (hg : Rea b y r2 g) :
    Rea b (c x y) (r1 ++ r2) fun s => (c (f s).1 (g (f s).2).1, (g (f s).2).2) where
  full := fun p rest hp h => by
    rw [List.append_assoc] at h
    obtain ⟨h1, h2⟩ := drop_len hp h
    simp only [hf.full p _ hp h, hg.full _ rest h1 h2, List.length_append, Nat.add_assoc]
  short := fun p t hp ht h => by
    by_cases hl : r1.length ≤ (b.drop p).length
    · have h1 : b.drop p = r1 ++ (b.drop p).drop r1.length := by
        have : (b.drop p).take r1.length = r1 := by
          have := congrArg (List.take r1.length) h
          rwa [List.take_append_of_le_length hl, List.take_left] at this
        conv => lhs; rw [← List.take_append_drop r1.length (b.drop p), this]
      obtain ⟨h3, h4⟩ := drop_len hp h1
      rw [h1, List.append_assoc] at h
      have h5 := List.append_cancel_left h
      simp only [hf.full p _ hp h1]
      exact hg.short _ t h3 ht (by rw [h4]; exact h5)
    · have h1 : r1 = b.drop p ++ r1.drop (b.drop p).length := by
        have : r1.take (b.drop p).length = b.drop p := by
          have := congrArg (List.take (b.drop p).length) h
          rw [List.take_left, List.take_append_of_le_length (by omega)] at this
          exact this.symm
        conv => lhs; rw [← List.take_append_drop (b.drop p).length r1, this]
      have h2 := hf.short p (r1.drop (b.drop p).length) hp (by intro e; have := congrArg List.length e; simp only [List.length_drop, List.length_nil] at this hl; omega) h1.symm
      have h3 := hg.dead (f (0, (p : Int))).2 (by rw [h2]; decide)
      exact h3.trans h2
  dead := fun s hs => by
    have h1 := hf.dead s hs
    exact (hg.dead _ (by rw [h1]; exact hs)).trans h1
theorem Rea.nop {α : Type} (b : List Int) (x : α) {f : DeS → α × DeS} (hf : ∀ p : Nat, f (0, (p : Int)) = (x, (0, (p : Int)))) (hd : ∀ s, s.1 ≠ 0 → (f s).2.1 = s.1) : Rea b x [] f where
  full := fun p rest hp h => by rw [hf]; rfl
  short := fun p t hp ht h => absurd (List.append_eq_nil_iff.1 h).2 ht
  dead := hd
theorem Rea.congr {α : Type} {b r : List Int} {x : α} {f g : DeS → α × DeS} (h : Rea b x r f) (e : ∀ s, g s = f s) : Rea b x r g := by
  have : g = f := funext e
  rw [this]; exact h
theorem spDn_dead (k : IntKind) (n : Nat) (b : List Int) {s : DeS} (h : s.1 ≠ 0) : spDn k n b s = (0, s) := by unfold spDn; rw [if_neg h]
theorem Rea.num {b : List Int} {k : IntKind} {n : Nat} {x : Int} (hx : k.wrap (spBEv (spBE x n)) = x) : Rea b x (spBE x n) (spDn k n b) where
  full := fun p rest hp h => by
    obtain ⟨h1, h2⟩ := drop_len hp h
    rw [spBE_len] at h1 ⊢
    unfold spDn
    rw [if_pos rfl]
    have hr : spRd b (p : Int) n = (spBEv (spBE x n), ((p : Int) + n, 0)) := by
      unfold spRd
      rw [if_neg (by omega)]
      have : ((b.drop ((p : Int)).toNat).take n) = spBE x n := by
        rw [Int.toNat_natCast, h]
        have := List.take_left (l₁ := spBE x n) (l₂ := rest)
        rw [spBE_len] at this
        exact this
      rw [this]
    simp only [hr, hx]
    simp
  short := fun p t hp ht h => by
    have hl := congrArg List.length h
    rw [List.length_append, List.length_drop, spBE_len] at hl
    have : 0 < t.length := List.length_pos_iff.2 ht
    unfold spDn
    rw [if_pos rfl]
    unfold spRd
    rw [if_pos (by omega)]
  dead := fun s hs => by rw [spDn_dead _ _ _ hs]
theorem spDTake_dead (b : List Int) (n : Int) {s : DeS} (h : s.1 ≠ 0) : spDTake b n s = ([], s) := by unfold spDTake; rw [if_neg h]
theorem Rea.take {b : List Int} (t : List Int) : Rea b t t (spDTake b t.length) where
  full := fun p rest hp h => by
    obtain ⟨h1, h2⟩ := drop_len hp h
    unfold spDTake
    rw [if_pos rfl, if_neg (by omega)]
    have hr : spTakeB b (p : Int) (t.length : Int) = (t, ((p : Int) + t.length, 0)) := by
      unfold spTakeB
      rw [if_neg (by omega), if_neg (by omega), Int.toNat_natCast, Int.toNat_natCast, h, List.take_left]
    simp only [hr]
    simp
  short := fun p u hp ht h => by
    have hl := congrArg List.length h
    rw [List.length_append, List.length_drop] at hl
    have : 0 < u.length := List.length_pos_iff.2 ht
    unfold spDTake
    rw [if_pos rfl, if_neg (by omega)]
    unfold spTakeB
    rw [if_neg (by omega), if_pos (by omega)]
  dead := fun s hs => by rw [spDTake_dead _ _ hs]
theorem Rea.bind {α β : Type} {b r1 r2 : List Int} {x : α} {y : β} {f : DeS → α × DeS} {g : α → DeS → β × DeS} (hf : Rea b x r1 f) (hg : Rea b y r2 (g x)) (a0 : α) (hz : ∀ s, (f s).2.1 ≠ 0 → (f s).1 = a0) (hd : ∀ s, s.1 ≠ 0 → (g a0 s).2.1 = s.1) :
    Rea b y (r1 ++ r2) fun s => g (f s).1 (f s).2 where
  full := fun p rest hp h => by
    rw [List.append_assoc] at h
    obtain ⟨h1, h2⟩ := drop_len hp h
    simp only [hf.full p _ hp h, hg.full _ rest h1 h2, List.length_append, Nat.add_assoc]
  short := fun p t hp ht h => by
    by_cases hl : r1.length ≤ (b.drop p).length
    · have h1 : b.drop p = r1 ++ (b.drop p).drop r1.length := by
        have : (b.drop p).take r1.length = r1 := by
          have := congrArg (List.take r1.length) h
          rwa [List.take_append_of_le_length hl, List.take_left] at this
        conv => lhs; rw [← List.take_append_drop r1.length (b.drop p), this]
      obtain ⟨h3, h4⟩ := drop_len hp h1
      rw [h1, List.append_assoc] at h
      have h5 := List.append_cancel_left h
      simp only [hf.full p _ hp h1]
      exact hg.short _ t h3 ht (by rw [h4]; exact h5)
    · have h1 : r1 = b.drop p ++ r1.drop (b.drop p).length := by
        have : r1.take (b.drop p).length = b.drop p := by
          have := congrArg (List.take (b.drop p).length) h
          rw [List.take_left, List.take_append_of_le_length (by omega)] at this
          exact this.symm
        conv => lhs; rw [← List.take_append_drop (b.drop p).length r1, this]
      have h2 := hf.short p (r1.drop (b.drop p).length) hp (by intro e; have := congrArg List.length e; simp only [List.length_drop, List.length_nil] at this hl; omega) h1.symm
      have h3 := hd (f (0, (p : Int))).2 (by rw [h2]; decide)
      rw [← hz (0, (p : Int)) (by rw [h2]; decide)] at h3
      exact h3.trans h2
  dead := fun s hs => by
    have h1 := hf.dead s hs
    have h3 := hd (f s).2 (by rw [h1]; exact hs)
    rw [← hz s (by rw [h1]; exact hs)] at h3
    exact h3.trans h1
theorem spUtf_nil : (spUtf []).2 = true := by rfl
theorem spDText_dead (b : List Int) (n : Int) {s : DeS} (h : s.1 ≠ 0) (hn : n ≤ 255) : spDText b n s = ([], s) := by
  have e : spDLong n s = s := by unfold spDLong; rw [if_neg (by omega)]
  unfold spDText
  rw [e, spDTake_dead b n h, if_pos spUtf_nil]
theorem Rea.text {b : List Int} (t : List Int) (hl : t.length ≤ 255) (hu : (spUtf t).2 = true) : Rea b t t (spDText b t.length) := by
  have e : ∀ s, spDLong (t.length : Int) s = s := fun s => by unfold spDLong; rw [if_neg (by omega)]
  have ht := Rea.take (b := b) t
  refine ⟨fun p rest hp h => ?_, fun p u hp hu' h => ?_, fun s hs => ?_⟩
  · have h1 := ht.full p rest hp h
    unfold spDText
    rw [e, h1, if_pos hu]
  · have h1 := ht.short p u hp hu' h
    unfold spDText
    rw [e]
    have h0 : (spDTake b (t.length : Int) (0, (p : Int))).1 = [] := by
      unfold spDTake at h1 ⊢
      rw [if_pos rfl, if_neg (by omega)] at h1 ⊢
      simp only at h1 ⊢
      unfold spTakeB at h1 ⊢
      split
      · rfl
      · split
        · rfl
        · rename_i h2 h3
          rw [if_neg h2, if_neg h3] at h1
          cases h1
    rw [h0, if_pos spUtf_nil]; exact h1
  · rw [spDText_dead b _ hs (by omega)]
theorem wrap0 (k : IntKind) : k.wrap 0 = 0 := by cases k <;> rfl
theorem spDn_zero (k : IntKind) (n : Nat) (b : List Int) (s : DeS) (h : (spDn k n b s).2.1 ≠ 0) : (spDn k n b s).1 = 0 := by
  unfold spDn at h ⊢
  split
  · rename_i h0
    rw [if_pos h0] at h
    unfold spRd at h ⊢
    split
    · exact wrap0 k
    · rename_i h1
      rw [if_neg h1] at h
      exact absurd rfl h
  · rfl
theorem Rea.str {b : List Int} (t : List Int) (hl : t.length ≤ 255) (hu : (spUtf t).2 = true) : Rea b t (spBE t.length 2 ++ t) (spDStr b) :=
  Rea.bind (g := spDText b) (Rea.num (b := b) (k := .i16) (n := 2) (x := (t.length : Int)) (wrapBE_i16 (by simp [inR, IntKind.min, IntKind.max, IntKind.signed, IntKind.bits]; omega))) (Rea.text t hl hu) 0 (spDn_zero _ _ _) fun s hs => by
    rw [spDText_dead b _ hs (by decide)]
def Rd {α : Type} (b : List Int) (x : α) (w : List Int × Int) (f : DeS → α × DeS) : Prop := w.2 = 0 → Rea b x w.1 f
theorem spSeq_zero {a b : List Int × Int} (h : (spSeq a b).2 = 0) : a.2 = 0 ∧ b.2 = 0 ∧ (spSeq a b).1 = a.1 ++ b.1 := by
  unfold spSeq at h ⊢
  by_cases h1 : a.2 = 0
  · by_cases h2 : b.2 = 0
    · refine ⟨h1, h2, ?_⟩
      simp [h1, h2]
    · simp [h1, h2] at h
  · simp [h1] at h
theorem Rd.seq {α β γ : Type} {b : List Int} {w1 w2 : List Int × Int} {x : α} {y : β} {f : DeS → α × DeS} {g : DeS → β × DeS} (c : α → β → γ) (hf : Rd b x w1 f) (hg : Rd b y w2 g) :
    Rd b (c x y) (spSeq w1 w2) fun s => (c (f s).1 (g (f s).2).1, (g (f s).2).2) := by
  intro h
  obtain ⟨h1, h2, h3⟩ := spSeq_zero h
  rw [h3]
  exact (hf h1).seq c (hg h2)
theorem Rd.num {b : List Int} {k : IntKind} {n : Nat} {x : Int} (hx : k.wrap (spBEv (spBE x n)) = x) : Rd b x (spBE x n, 0) (spDn k n b) := fun _ => Rea.num hx
theorem Rd.nop {α : Type} (b : List Int) (x : α) : Rd b x ([], 0) fun s => (x, s) := fun _ => Rea.nop b x (fun p => rfl) fun s _ => rfl
theorem Rd.txt {b : List Int} (t : List Int) : Rd b t (spTxt t) (spDStr b) := by
  intro h
  unfold spTxt at h ⊢
  split at h
  · cases h
  · rename_i h1
    split at h
    · cases h
    · rename_i h2
      rw [if_neg h1, if_neg h2]
      exact Rea.str t (by omega) (by simpa using h1)
theorem Rea.map {α β : Type} {b r : List Int} {x : α} {f : DeS → α × DeS} (c : α → β) (h : Rea b x r f) : Rea b (c x) r fun s => (c (f s).1, (f s).2) :=
  ⟨fun p rest hp hd => by simp only [h.full p rest hp hd], fun p t hp ht hd => h.short p t hp ht hd, fun s hs => h.dead s hs⟩
def blG (b : List Int) (a : Int) (s : DeS) : tBlobT.den × DeS := if a = -1 then ((true, (([] : List Int), ())), s) else ((false, ((spDTake b a s).1, ())), (spDTake b a s).2)
theorem Rd.blo {b : List Int} (n : tBlobT.den) (hn : n.2.1.length ≤ 2147483647) : Rd b n (spBlo n) (spDBlob b) := by
  have e : ∀ s, spDBlob b s = blG b (spDn .i32 4 b s).1 (spDn .i32 4 b s).2 := fun s => rfl
  have hd : ∀ s : DeS, s.1 ≠ 0 → (blG b 0 s).2.1 = s.1 := fun s hs => by
    unfold blG
    rw [if_neg (by decide), spDTake_dead b _ hs]
  obtain ⟨z, t, ⟨⟩⟩ := n
  have hn : t.length ≤ 2147483647 := hn
  intro hh
  have h : (if z = true then (if t.length = 0 then (spBE (-1) 4, 0) else ([], 70)) else (spBE t.length 4 ++ t, 0) : List Int × Int).2 = 0 := hh
  clear hh
  show Rea b _ (if z = true then (if t.length = 0 then (spBE (-1) 4, 0) else ([], 70)) else (spBE t.length 4 ++ t, 0) : List Int × Int).1 _
  by_cases hz : z = true
  · rw [if_pos hz] at h ⊢
    by_cases h0 : List.length t = 0
    · rw [if_pos h0] at h ⊢
      have ht : t = [] := List.eq_nil_of_length_eq_zero h0
      subst ht
      subst hz
      have hg : Rea b (true, (([] : List Int), ())) [] (blG b (-1)) := Rea.nop b _ (fun p => by unfold blG; rw [if_pos rfl]) fun s hs => by unfold blG; rw [if_pos rfl]
      have := (Rea.bind (Rea.num (b := b) (k := .i32) (n := 4) (x := -1) (wrapBE_i32 (by simp [inR, IntKind.min, IntKind.max, IntKind.signed, IntKind.bits]))) hg 0 (spDn_zero _ _ _) hd).congr e
      rw [List.append_nil] at this
      exact this
    · rw [if_neg h0] at h
      cases h
  · rw [if_neg hz] at h ⊢
    have hz : z = false := by simpa using hz
    subst hz
    have hg : Rea b (false, (t, ())) t (blG b t.length) := ((Rea.take (b := b) t).map fun x => (false, (x, ()))).congr fun s => by unfold blG; rw [if_neg (by omega)]
    exact (Rea.bind (Rea.num (b := b) (k := .i32) (n := 4) (x := (t.length : Int)) (wrapBE_i32 (by simp [inR, IntKind.min, IntKind.max, IntKind.signed, IntKind.bits]; omega))) hg 0 (spDn_zero _ _ _) hd).congr e
theorem Rd.rep {α : Type} {b : List Int} {w : α → List Int × Int} {one : DeS → α × DeS} : ∀ {xs : List α}, (∀ x ∈ xs, Rd b x (w x) one) → Rd b xs (spAll w xs) (spRep one xs.length)
  | [], _ => fun _ => Rea.nop b _ (fun p => rfl) fun s hs => rfl
  | x :: xs, h => by
    intro hz
    have hs := (Rd.seq List.cons (h x (by simp)) (Rd.rep fun y hy => h y (List.mem_cons_of_mem _ hy))) hz
    refine ⟨fun p rest hp hd => ?_, fun p t hp ht hd => ?_, fun s hs => ?_⟩
    · rw [List.length_cons, spRep, if_pos rfl]
      exact hs.full p rest hp hd
    · rw [List.length_cons, spRep, if_pos rfl]
      exact hs.short p t hp ht hd
    · rw [List.length_cons, spRep, if_neg hs]
theorem Rd.list {α : Type} {b : List Int} {w : α → List Int × Int} {one : DeS → α × DeS} {xs : List α} (h : ∀ x ∈ xs, Rd b x (w x) one) : Rd b xs (spArrW w xs) (spList one b) := by
  intro hz
  unfold spArrW at hz ⊢
  by_cases h1 : 16 < xs.length
  · rw [if_pos h1] at hz; cases hz
  rw [if_neg h1] at hz ⊢
  obtain ⟨_, h2, h3⟩ := spSeq_zero hz
  rw [h3]
  have hr := Rd.rep h h2
  have hg : Rea b xs (spAll w xs).1 (fun s => spRep one ((xs.length : Int)).toNat (spLen xs.length s)) := hr.congr fun s => by
    rw [Int.toNat_natCast]
    have : spLen (xs.length : Int) s = s := by
      unfold spLen
      split
      · rw [if_neg (by omega), if_neg (by omega)]
      · rfl
    rw [this]
  exact Rea.bind (g := fun a s => spRep one a.toNat (spLen a s)) (Rea.num (b := b) (k := .i32) (n := 4) (x := (xs.length : Int)) (wrapBE_i32 (by simp [inR, IntKind.min, IntKind.max, IntKind.signed, IntKind.bits]; omega))) hg 0 (spDn_zero _ _ _) fun s hs => by
    show (spLen 0 s).1 = s.1
    unfold spLen
    rw [if_neg hs]
theorem Rd.congr {α : Type} {b : List Int} {x : α} {w : List Int × Int} {f g : DeS → α × DeS} (h : Rd b x w f) (e : ∀ s, g s = f s) : Rd b x w g := fun hz => (h hz).congr e
theorem spDHas_in {v lo hi : Int} (h : lo ≤ v ∧ v ≤ hi) : spDHas v lo hi 0 = true := if_pos ⟨rfl, h⟩
theorem spDHas_out {v lo hi e : Int} (h : ¬ (lo ≤ v ∧ v ≤ hi)) : spDHas v lo hi e = false := if_neg fun h' => h h'.2
theorem spDHas_err {v lo hi e : Int} (h : e ≠ 0) : spDHas v lo hi e = false := if_neg fun h' => h h'.1
theorem Rd.opt {b : List Int} {k : IntKind} {n : Nat} {x v lo hi : Int} (hx : k.wrap (spBEv (spBE x n)) = x) (h0 : ¬ (lo ≤ v ∧ v ≤ hi) → x = 0) : Rd b x (if lo ≤ v ∧ v ≤ hi then (spBE x n, 0) else ([], 0)) (spDHasN k n v lo hi b) := by
  intro _
  by_cases h : lo ≤ v ∧ v ≤ hi
  · rw [if_pos h]
    have hn := Rea.num (b := b) hx
    refine ⟨fun p rest hp hd => ?_, fun p t hp ht hd => ?_, fun s hs => ?_⟩
    · unfold spDHasN
      rw [if_pos (spDHas_in h)]; exact hn.full p rest hp hd
    · unfold spDHasN
      rw [if_pos (spDHas_in h)]; exact hn.short p t hp ht hd
    · unfold spDHasN
      rw [if_neg (by rw [spDHas_err hs]; decide)]
  · rw [if_neg h]
    have hx0 := h0 h
    subst hx0
    refine Rea.nop b _ (fun p => ?_) fun s hs => ?_
    · unfold spDHasN
      rw [if_neg (by rw [spDHas_out h]; decide)]
    · unfold spDHasN
      rw [if_neg (by rw [spDHas_out h]; decide)]
end
end Go.Proofs.YtjpeefegeobgfaaGreat.Sym
namespace Go.Proofs.YtjpeefegeobgfaaGreat.Sym
open Go
set_option linter.unusedSimpArgs false
set_option linter.unusedVariables false
noncomputable section
theorem Rd.part {b : List Int} {p : tPart.den} (h : tPart.wf p) (hb : p.2.1.2.1.length ≤ 2147483647) : Rd b p (wPart p) (spDPart b) :=
  (Rd.seq (fun a r => (a, r)) (Rd.num (wrapBE_i32 h.1)) (Rd.seq (fun a r => (a, r)) (Rd.blo p.2.1 hb) (Rd.nop b ()))).congr fun s => by unfold spDPart; rfl
theorem spSeq_good {a b : List Int × Int} (h : (spSeq a b).2 ≠ 0) : (spSeq a b).1 = [] := by
  unfold spSeq at h ⊢
  split
  · rfl
  · split
    · rfl
    · rename_i h1 h2
      rw [if_neg h1, if_neg h2] at h
      exact absurd rfl h
theorem spSeq_nil (a b : List Int × Int) : spSeq ([], 0) (spSeq a b) = spSeq a b := by
  by_cases h : (spSeq a b).2 = 0
  · have e : spSeq a b = ((spSeq a b).1, 0) := by rw [← h]
    rw [e]; unfold spSeq; simp
  · have := spSeq_good h
    have e : spSeq a b = ([], (spSeq a b).2) := by rw [← this]
    generalize spSeq a b = c at h e ⊢
    rw [e]
    unfold spSeq
    simp only [List.nil_append]
    rw [if_neg (by simp), if_pos h]
theorem Rd.optSeq {β γ : Type} {b : List Int} {k : IntKind} {n : Nat} {x v lo hi : Int} {R : List Int × Int} {y : β} {g : DeS → β × DeS} (c : Int → β → γ) (hx : k.wrap (spBEv (spBE x n)) = x) (h0 : ¬ (lo ≤ v ∧ v ≤ hi) → x = 0) (hg : Rd b y R g) :
    Rd b (c x y) (if lo ≤ v ∧ v ≤ hi then spSeq (spBE x n, 0) R else R) fun s => (c (spDHasN k n v lo hi b s).1 (g (spDHasN k n v lo hi b s).2).1, (g (spDHasN k n v lo hi b s).2).2) := by
  by_cases h : lo ≤ v ∧ v ≤ hi
  · rw [if_pos h]
    have := Rd.seq c (Rd.opt (b := b) (k := k) (n := n) (v := v) (lo := lo) (hi := hi) hx h0) hg
    rw [if_pos h] at this
    exact this
  · rw [if_neg h]
    have hx0 := h0 h
    subst hx0
    intro hz
    have hr := hg hz
    exact (hr.map (c 0)).congr fun s => by
      have : spDHasN k n v lo hi b s = (0, s) := by unfold spDHasN; rw [if_neg (by rw [spDHas_out h]; decide)]
      rw [this]
theorem okDone_iff {v : Int} {p : tDone.den} (h : okDone v p = true) : (¬ (2 ≤ v ∧ v ≤ 3) → p.2.2.2.1 = 0) ∧ (¬ (3 ≤ v ∧ v ≤ 3) → p.2.2.2.2.1 = 0) := by
  unfold okDone at h
  simp only [Bool.and_eq_true] at h
  refine ⟨fun hv => ?_, fun hv => ?_⟩
  · have := h.1; rw [if_neg hv] at this; simpa using this
  · have := h.2; rw [if_neg hv] at this; simpa using this
theorem Rd.done {b : List Int} {p : tDone.den} {v : Int} (h : tDone.wf p) (hk : okDone v p = true) : Rd b p (wDone v p) (spDDone v b) :=
  (Rd.seq (fun a r => (a, r)) (Rd.num (wrapBE_i32 h.1)) (Rd.seq (fun a r => (a, r)) (Rd.num (wrapBE_i16 h.2.1)) (Rd.seq (fun a r => (a, r)) (Rd.num (wrapBE_i64 h.2.2.1))
    (Rd.optSeq (fun a r => (a, r)) (wrapBE_i64 h.2.2.2.1) (okDone_iff hk).1 (Rd.optSeq (fun a r => (a, r)) (wrapBE_i64 h.2.2.2.2.1) (okDone_iff hk).2 (Rd.nop b ())))))).congr fun s => by unfold spDDone spD3; rfl
end
end Go.Proofs.YtjpeefegeobgfaaGreat.Sym
namespace Go.Proofs.YtjpeefegeobgfaaGreat.Sym
open Go
set_option linter.unusedSimpArgs false
set_option linter.unusedVariables false
noncomputable section
theorem spSeq_nilW {v : Int} (fs : List Fd) (ks : List Nd) : spSeq ([], 0) (spWZip v fs ks) = spWZip v fs ks := by
  induction fs generalizing ks with
  | nil => rw [spWZip_nl]; rfl
  | cons f fs ih =>
    cases ks with
    | nil => rw [spWZip]; rfl; all_goals simp
    | cons k ks =>
      rw [spWZip]
      split
      · exact spSeq_nil _ _
      · exact ih ks
theorem spWZ_o {nm : List Int} {k lo hi : Int} {e fs : List Fd} {n : Nd} {ks : List Nd} {v : Int} : spWZip v (fld nm k lo hi e :: fs) (n :: ks) = spSeq (if lo ≤ v ∧ v ≤ hi then spW (fld nm k lo hi e) v n else ([], 0)) (spWZip v fs ks) := by
  by_cases h : lo ≤ v ∧ v ≤ hi
  · rw [if_pos h, spWZ_has (spHas_in h.1 h.2)]
  · rw [if_neg h, spWZ_not (spHas_out (by omega)), spSeq_nilW]
theorem Rd.map {α β : Type} {b : List Int} {x : α} {w : List Int × Int} {f : DeS → α × DeS} (c : α → β) (h : Rd b x w f) : Rd b (c x) w fun s => (c (f s).1, (f s).2) := fun hz => (h hz).map c
end
end Go.Proofs.YtjpeefegeobgfaaGreat.Sym
