/- leatref01.Apart: two lists that nothing else leans on are apart. -/
import Derived.Test.YtnppjkijhcampaaQ5

namespace Go.Proofs.Ytnppjkijhcampaa.Sym
open Go
set_option linter.unusedSimpArgs false
set_option linter.unusedVariables false
noncomputable section

/-! ### leat/leatref01.Turned -/
noncomputable abbrev ioTurned : Io := ⟨[dL, dL], [], [], [dB], none⟩
noncomputable def FTurned (d : ioTurned.In) : Tr ioTurned.Res := .ret (.ret ((decide (d.1.1 = List.map spT d.1.2.1), ()), ()))
noncomputable abbrev csTurned : List (Nat × Hc) := []
noncomputable def hdTurned : Hd := hdT csTurned
noncomputable abbrev loTurned_5 : Lo := ⟨⟨[.one (.hol (.sl 5 (Ty.int IntKind.u8))), .one (.hol (.sl 5 (Ty.int IntKind.u8))), .any, .any, .any, .one (.hol (.int IntKind.i64)), .any, .any, .any, .any, .any, .any, .any, .any, .any, .any, .any, .any, .any, .any, .any, .any, .any, .any, .any, .any, .any], []⟩, [(.ret, ⟨[.any, .any, .any, .any, .one (.hol .bool), .any, .any, .any, .any, .any, .any, .any, .any, .any, .any, .any, .any, .any, .any, .any, .any, .any, .any, .any, .any, .any, .any], []⟩), (.exit 0, ⟨[.any, .any, .any, .any, .any, .any, .any, .any, .any, .any, .any, .any, .any, .any, .any, .any, .any, .any, .any, .any, .any, .any, .any, .any, .any, .any, .any], []⟩)]⟩
-- FTurned_5 : loTurned_5.st.den → Tr (DenX loTurned_5.xs) | ((h2, (h3, (h4, ()))), ())
noncomputable def FTurned_5 (d : loTurned_5.st.den) : Tr (DenX loTurned_5.xs) :=
  .ite (decide (0 ≤ d.1.2.2.1) && decide (d.1.1.length = d.1.2.1.length)) (.ite (decide (d.1.1.drop d.1.2.2.1.toNat = (List.map spT d.1.2.1).drop d.1.2.2.1.toNat)) (.ret (.pan (.ret ((), ((), ()))))) (.ret (.ret ((), ((false, ()), ()))))) .no
noncomputable def lpTurned : Lp := lpT [(5, loHd loTurned_5 FTurned_5)]
noncomputable def stepTurned_5 {R : Type} (h2 : List Int) (h3 : List Int) (h4 : Int) (next : List Int → List Int → Int → Option R) (out : DenX loTurned_5.xs → Option R) : Option R := bif decide (h4 < (↑h2.length : Int)) then bif decide (0 ≤ h4) && decide (h4 < (↑h2.length : Int)) then bif decide (0 ≤ h4) && decide (h4 < (↑h3.length : Int)) then bif h2.getD h4.toNat 0 != spXor IntKind.u8 (h3.getD h4.toNat 0) 90 then out (.ret ((), ((false, ()), ()))) else next (h2) (h3) (IntKind.i64.wrap (h4 + 1)) else none else none else out (.pan (.ret ((), ((), ()))))
noncomputable def itTurned_5 (n : Nat) (h2 : List Int) (h3 : List Int) (h4 : Int) : Option (DenX loTurned_5.xs) := lpN tt hdTurned dr lpTurned 0 Go.Proofs.Try.f43 (topL Go.Proofs.Try.f43 0) n (loTurned_5.st.mk' ((h2, (h3, (h4, ()))), ())) (decX loTurned_5.xs)
theorem slTurned_5 (n : Nat) (h2 : List Int) (h3 : List Int) (h4 : Int) : itTurned_5 (n + 1) h2 h3 h4 = stepTurned_5 h2 h3 h4 (itTurned_5 n) some := by kernel_rfl
theorem loopTurned (xs ys : List Int) (hl : xs.length = ys.length) (hb : xs.length ≤ maxLen) : ∀ (k i : Nat), i ≤ xs.length → xs.length < i + k →
    itTurned_5 k xs ys i = if xs.drop i = (List.map spT ys).drop i then some (.pan (.ret ((), ((), ())))) else some (.ret ((), ((false, ()), ()))) := by
  intro k
  induction k with
  | zero => intro i h h'; omega
  | succ k ih =>
    intro i hi h
    rw [slTurned_5]
    unfold stepTurned_5
    by_cases h1 : i < xs.length
    · have h2 : i < ys.length := by omega
      have h3 : i < (List.map spT ys).length := by simpa using h2
      rw [wrap_succ h1 hb, ih (i + 1) h1 (by omega)]
      have e : (xs.drop i = (List.map spT ys).drop i) ↔ (xs[i] = spT ys[i] ∧ xs.drop (i + 1) = (List.map spT ys).drop (i + 1)) := by rw [List.drop_eq_getElem_cons h1, List.drop_eq_getElem_cons h3, List.cons.injEq, List.getElem_map]
      have e2 : spXor .u8 ys[i] 90 = spT ys[i] := rfl
      simp only [Int.toNat_natCast, getD_lt h1, getD_lt h2, e2]
      by_cases he : xs[i] = spT ys[i] <;> simp [h1, h2, he, e, cond_eq_ite]
    · rw [List.drop_of_length_le (by omega), List.drop_of_length_le (by simp; omega)]
      simp [h1]
noncomputable def bodyTurned (a0 : List Int) (a1 : List Int) : Option ioTurned.Res := bif (↑a0.length : Int) != (↑a1.length : Int) then some (Out.ret ((false, ()), ())) else (FTurned_5 ((a0, (a1, (0, ()))), ())).run fun y => match y with | .ret ((), ((x9, ()), ())) => (some (Out.ret ((x9, ()), ()))) | .pan (.ret ((), ((), ()))) => (some (Out.ret ((true, ()), ())))
theorem runTurned (a0 : List Int) (a1 : List Int) : Io.run tt hdTurned dr lpTurned ioTurned Go.Proofs.Try.f43 ((a0, a1, ()), ()) = bodyTurned a0 a1 := by kernel_rfl
theorem okTurned : HcOk prog 43 (ioHd ioTurned FTurned) := by
  refine fn_sound (n := 400) hm (cs := csTurned) HcsOk.nil (lp := lpTurned) (fn := Go.Proofs.Try.f43) (by kernel_rfl) (by kernel_rfl) (by kernel_rfl) ioTurned
    (.step (h0 := loHd loTurned_5 FTurned_5) (by kernel_rfl) (loop_sound (n := 400) hm (cs := csTurned) HcsOk.nil (lp := lpTurned) (fn := Go.Proofs.Try.f43) (.done (by kernel_rfl)) loTurned_5 FTurned_5 ?_) (.done (by kernel_rfl))) FTurned ?_
  · rintro ⟨⟨xs, ys, i, ⟨⟩⟩, ⟨⟩⟩ y hw hy
    obtain ⟨hg, hy⟩ := Tr.guard hy
    simp only [Bool.and_eq_true, decide_eq_true_eq] at hg
    obtain ⟨n, rfl⟩ := toNat_of hg.1
    by_cases hn : n ≤ xs.length
    · refine ⟨xs.length + 1, (loopTurned xs ys hg.2 hw.1.1.1 _ n hn (by omega)).trans ?_⟩
      rw [← hy]
      simp only [Tr.val_ite, decide_eq_true_eq, Int.toNat_natCast, Tr.val_ret]
    · refine ⟨1, ?_⟩
      show itTurned_5 (0 + 1) xs ys n = _
      rw [slTurned_5, ← hy]
      unfold stepTurned_5
      have h1 : ¬ n < xs.length := by omega
      simp [Tr.val_ite, Tr.val_ret, h1, List.drop_of_length_le (show xs.length ≤ n by omega), List.drop_of_length_le (show (List.map spT ys).length ≤ n by simp; omega)]
  · rintro ⟨⟨(xs : List Int), (ys : List Int), ⟨⟩⟩, ⟨⟩⟩ out hw ho
    refine (runTurned xs ys).trans ?_
    cases ho
    unfold bodyTurned
    by_cases hl : xs.length = ys.length
    · by_cases he : xs = List.map spT ys
      · subst he; simp [FTurned_5, Tr.run]
      · simp [FTurned_5, Tr.run, hl, he]
    · have : xs ≠ List.map spT ys := fun e => hl (by rw [e]; simp)
      have h2 : (xs.length : Int) ≠ ys.length := by omega
      simp [this, h2, cond_eq_ite]

/-! ### leat/leatref01.Apart -/
--@start InApart stApart
--@over 7 1 1 => 1 15
--@over 14 3 3 => 3 19
noncomputable abbrev ioApart : Io := ioB
noncomputable abbrev InApart : Type := List Int × (List Int × (List Int × Unit))
noncomputable def stApart (d : InApart) : AS := ⟨[.one (.ex 5 u8T 0 d.1 1 1), .one (.ex 5 u8T 0 d.2.1 3 3), .one (.lst 5 u8T d.2.2.1 0)] ++ anys 94, [], []⟩
noncomputable abbrev csApart : List (Nat × Hc) := [(25, pureHd (ioHd ioSame FSame)), (22, spoilHd), (43, pureHd (ioHd ioTurned FTurned))]
noncomputable def hdApart : Hd := hdT csApart
def spMk (c : Nat) : List Int := (List.range 80).map fun i => ((i + c : Nat) : Int)
theorem spMk_len (c : Nat) : (spMk c).length = 80 := by simp [spMk]
theorem spMk_get {c i : Nat} (h : i < 80) : (spMk c)[i]'(by rw [spMk_len]; exact h) = ((i + c : Nat) : Int) := by simp [spMk]
noncomputable abbrev loApart_7 : Lo := ⟨⟨[.one (.exl 5 (Ty.int IntKind.u8) 1 1), .one (.exl 5 (Ty.int IntKind.u8) 3 3), .one (.hol (.sl 5 (Ty.int IntKind.u8))), .any, .any, .any, .any, .one (.exl 5 (Ty.int IntKind.u8) 1 15), .one (.hol (.int IntKind.i64)), .any, .any, .any, .any, .any, .any, .any, .any, .any, .any, .any, .any, .any, .any, .any, .any, .any, .any, .any, .any, .any, .any, .any, .any, .any, .any, .any, .any, .any, .any, .any, .any, .any, .any, .any, .any, .any, .any, .any, .any, .any, .any, .any, .any, .any, .any, .any, .any, .any, .any, .any, .any, .any, .any, .any, .any, .any, .any, .any, .any, .any, .any, .any, .any, .any, .any, .any, .any, .any, .any, .any, .any, .any, .any, .any, .any, .any, .any, .any, .any, .any, .any, .any, .any, .any, .any, .any, .any], []⟩, [(.exit 0, ⟨[.one (.exl 5 (Ty.int IntKind.u8) 1 1), .one (.exl 5 (Ty.int IntKind.u8) 3 3), .one (.hol (.sl 5 (Ty.int IntKind.u8))), .any, .any, .any, .any, .one (.exl 5 (Ty.int IntKind.u8) 1 15), .any, .any, .any, .any, .any, .any, .any, .any, .any, .any, .any, .any, .any, .any, .any, .any, .any, .any, .any, .any, .any, .any, .any, .any, .any, .any, .any, .any, .any, .any, .any, .any, .any, .any, .any, .any, .any, .any, .any, .any, .any, .any, .any, .any, .any, .any, .any, .any, .any, .any, .any, .any, .any, .any, .any, .any, .any, .any, .any, .any, .any, .any, .any, .any, .any, .any, .any, .any, .any, .any, .any, .any, .any, .any, .any, .any, .any, .any, .any, .any, .any, .any, .any, .any, .any, .any, .any, .any, .any], []⟩)]⟩
-- FApart_7 : loApart_7.st.den → Tr (DenX loApart_7.xs) | ((h8, (h9, (h10, (h11, (h12, ()))))), ())
noncomputable abbrev loApart_14 : Lo := ⟨⟨[.one (.exl 5 (Ty.int IntKind.u8) 1 1), .one (.exl 5 (Ty.int IntKind.u8) 3 3), .one (.hol (.sl 5 (Ty.int IntKind.u8))), .any, .any, .any, .any, .one (.exl 5 (Ty.int IntKind.u8) 1 15), .any, .one (.exl 5 (Ty.int IntKind.u8) 3 19), .one (.hol (.int IntKind.i64)), .any, .any, .any, .any, .any, .any, .any, .any, .any, .any, .any, .any, .any, .any, .any, .any, .any, .any, .any, .any, .any, .any, .any, .any, .any, .any, .any, .any, .any, .any, .any, .any, .any, .any, .any, .any, .any, .any, .any, .any, .any, .any, .any, .any, .any, .any, .any, .any, .any, .any, .any, .any, .any, .any, .any, .any, .any, .any, .any, .any, .any, .any, .any, .any, .any, .any, .any, .any, .any, .any, .any, .any, .any, .any, .any, .any, .any, .any, .any, .any, .any, .any, .any, .any, .any, .any], []⟩, [(.exit 2, ⟨[.one (.exl 5 (Ty.int IntKind.u8) 1 1), .one (.exl 5 (Ty.int IntKind.u8) 3 3), .one (.hol (.sl 5 (Ty.int IntKind.u8))), .any, .any, .any, .any, .one (.exl 5 (Ty.int IntKind.u8) 1 15), .any, .one (.exl 5 (Ty.int IntKind.u8) 3 19), .any, .any, .any, .any, .any, .any, .any, .any, .any, .any, .any, .any, .any, .any, .any, .any, .any, .any, .any, .any, .any, .any, .any, .any, .any, .any, .any, .any, .any, .any, .any, .any, .any, .any, .any, .any, .any, .any, .any, .any, .any, .any, .any, .any, .any, .any, .any, .any, .any, .any, .any, .any, .any, .any, .any, .any, .any, .any, .any, .any, .any, .any, .any, .any, .any, .any, .any, .any, .any, .any, .any, .any, .any, .any, .any, .any, .any, .any, .any, .any, .any, .any, .any, .any, .any, .any, .any], []⟩)]⟩
-- FApart_14 : loApart_14.st.den → Tr (DenX loApart_14.xs) | ((h32, (h33, (h34, (h35, (h36, (h37, ())))))), ())
noncomputable abbrev loApart_19 : Lo := ⟨⟨[.one (.exl 5 (Ty.int IntKind.u8) 1 1), .one (.exl 5 (Ty.int IntKind.u8) 3 3), .one (.hol (.sl 5 (Ty.int IntKind.u8))), .any, .any, .any, .any, .one (.exl 5 (Ty.int IntKind.u8) 1 15), .any, .one (.ext 5 (Ty.int IntKind.u8) 3 19), .any, .one (.hol (.int IntKind.i64)), .any, .any, .any, .any, .any, .any, .any, .any, .any, .any, .any, .any, .any, .any, .any, .any, .any, .any, .any, .any, .any, .any, .any, .any, .any, .any, .any, .any, .any, .any, .any, .any, .any, .any, .any, .any, .any, .any, .any, .any, .any, .any, .any, .any, .any, .any, .any, .any, .any, .any, .any, .any, .any, .any, .any, .any, .any, .any, .any, .any, .any, .any, .any, .any, .any, .any, .any, .any, .any, .any, .any, .any, .any, .any, .any, .any, .any, .any, .any, .any, .any, .any, .any, .any, .any], []⟩, [(.ret, ⟨[.any, .any, .any, .any, .any, .any, .one (.hol .bool), .any, .any, .any, .any, .any, .any, .any, .any, .any, .any, .any, .any, .any, .any, .any, .any, .any, .any, .any, .any, .any, .any, .any, .any, .any, .any, .any, .any, .any, .any, .any, .any, .any, .any, .any, .any, .any, .any, .any, .any, .any, .any, .any, .any, .any, .any, .any, .any, .any, .any, .any, .any, .any, .any, .any, .any, .any, .any, .any, .any, .any, .any, .any, .any, .any, .any, .any, .any, .any, .any, .any, .any, .any, .any, .any, .any, .any, .any, .any, .any, .any, .any, .any, .any, .any, .any, .any, .any, .any, .any], []⟩), (.exit 4, ⟨[.one (.exl 5 (Ty.int IntKind.u8) 1 1), .one (.exl 5 (Ty.int IntKind.u8) 3 3), .one (.hol (.sl 5 (Ty.int IntKind.u8))), .any, .any, .any, .any, .any, .any, .any, .any, .any, .any, .any, .any, .any, .any, .any, .any, .any, .any, .any, .any, .any, .any, .any, .any, .any, .any, .any, .any, .any, .any, .any, .any, .any, .any, .any, .any, .any, .any, .any, .any, .any, .any, .any, .any, .any, .any, .any, .any, .any, .any, .any, .any, .any, .any, .any, .any, .any, .any, .any, .any, .any, .any, .any, .any, .any, .any, .any, .any, .any, .any, .any, .any, .any, .any, .any, .any, .any, .any, .any, .any, .any, .any, .any, .any, .any, .any, .any, .any, .any, .any, .any, .any, .any, .any], []⟩)]⟩
-- FApart_19 : loApart_19.st.den → Tr (DenX loApart_19.xs) | ((h54, (h55, (h56, (h57, ((h58, h59), (h60, ())))))), ())
noncomputable def FApart_7 (d : loApart_7.st.den) : Tr (DenX loApart_7.xs) :=
  .ite (decide (d.1.2.2.2.2.1 = 0) && (decide (d.1.2.2.2.1.length ≤ 4294967000) && decide (d.1.1.length ≤ d.1.2.2.2.1.length))) (.ret (.ret ((), ((d.1.1, d.1.2.1, d.1.2.2.1, d.1.2.2.2.1 ++ spMk 1, ()), ())))) .no
noncomputable def FApart_14 (d : loApart_14.st.den) : Tr (DenX loApart_14.xs) :=
  .ite (decide (d.1.2.2.2.2.2.1 = 0) && (decide (d.1.2.2.2.2.1.length ≤ 4294967000) && decide (d.1.2.1.length ≤ d.1.2.2.2.2.1.length))) (.ret (.ret ((), ((d.1.1, d.1.2.1, d.1.2.2.1, d.1.2.2.2.1, d.1.2.2.2.2.1 ++ spMk 101, ()), ())))) .no
noncomputable def FApart_19 (d : loApart_19.st.den) : Tr (DenX loApart_19.xs) :=
  .ite (decide (d.1.2.2.2.2.2.1 = 0) && (decide (List.drop d.1.1.length d.1.2.2.2.1 = spMk 1) && (decide (d.1.2.2.2.2.1.1 = d.1.2.1.length) && decide (d.1.2.2.2.2.1.2 = spMk 101)))) (.ret (.pan (.ret ((), ((d.1.1, d.1.2.1, d.1.2.2.1, ()), ()))))) .no
noncomputable def lpApart : Lp := lpT [(7, loHd loApart_7 FApart_7), (14, loHd loApart_14 FApart_14), (19, loHd loApart_19 FApart_19)]
noncomputable def stepApart_7 {R : Type} (h8 : List Int) (h9 : List Int) (h10 : List Int) (h11 : List Int) (h12 : Int) (next : List Int → List Int → List Int → List Int → Int → Option R) (out : DenX loApart_7.xs → Option R) : Option R := bif decide (h12 < 80) then bif decide (0 + h11.length + [IntKind.u8.wrap (IntKind.i64.wrap (h12 + 1))].length ≤ 4294967296) && (decide ((0 + h8.length) * 1 ≤ (0 + h11.length) * 1) && true) then next (h8) (h9) (h10) (h11 ++ [IntKind.u8.wrap (IntKind.i64.wrap (h12 + 1))]) (IntKind.i64.wrap (h12 + 1)) else none else out (.ret ((), ((h8, (h9, (h10, (h11, ())))), ())))
noncomputable def itApart_7 (n : Nat) (h8 : List Int) (h9 : List Int) (h10 : List Int) (h11 : List Int) (h12 : Int) : Option (DenX loApart_7.xs) := lpN tt hdApart dr lpApart 0 Go.Proofs.Try.f28 (topL Go.Proofs.Try.f28 0) n (loApart_7.st.mk' ((h8, (h9, (h10, (h11, (h12, ()))))), ())) (decX loApart_7.xs)
theorem slApart_7 (n : Nat) (h8 : List Int) (h9 : List Int) (h10 : List Int) (h11 : List Int) (h12 : Int) : itApart_7 (n + 1) h8 h9 h10 h11 h12 = stepApart_7 h8 h9 h10 h11 h12 (itApart_7 n) some := by kernel_rfl
noncomputable def stepApart_14 {R : Type} (h32 : List Int) (h33 : List Int) (h34 : List Int) (h35 : List Int) (h36 : List Int) (h37 : Int) (next : List Int → List Int → List Int → List Int → List Int → Int → Option R) (out : DenX loApart_14.xs → Option R) : Option R := bif decide (h37 < 80) then bif decide (0 + h36.length + [IntKind.u8.wrap (IntKind.i64.wrap (h37 + 101))].length ≤ 4294967296) && (decide ((0 + h33.length) * 1 ≤ (0 + h36.length) * 1) && true) then next (h32) (h33) (h34) (h35) (h36 ++ [IntKind.u8.wrap (IntKind.i64.wrap (h37 + 101))]) (IntKind.i64.wrap (h37 + 1)) else none else out (.ret ((), ((h32, (h33, (h34, (h35, (h36, ()))))), ())))
noncomputable def itApart_14 (n : Nat) (h32 : List Int) (h33 : List Int) (h34 : List Int) (h35 : List Int) (h36 : List Int) (h37 : Int) : Option (DenX loApart_14.xs) := lpN tt hdApart dr lpApart 0 Go.Proofs.Try.f28 (topL Go.Proofs.Try.f28 1) n (loApart_14.st.mk' ((h32, (h33, (h34, (h35, (h36, (h37, ())))))), ())) (decX loApart_14.xs)
theorem slApart_14 (n : Nat) (h32 : List Int) (h33 : List Int) (h34 : List Int) (h35 : List Int) (h36 : List Int) (h37 : Int) : itApart_14 (n + 1) h32 h33 h34 h35 h36 h37 = stepApart_14 h32 h33 h34 h35 h36 h37 (itApart_14 n) some := by kernel_rfl
noncomputable def stepApart_19 {R : Type} (h54 : List Int) (h55 : List Int) (h56 : List Int) (h57 : List Int) (h58 : Nat) (h59 : List Int) (h60 : Int) (next : List Int → List Int → List Int → List Int → Nat → List Int → Int → Option R) (out : DenX loApart_19.xs → Option R) : Option R := bif decide (h60 < 80) then bif decide ((↑0 : Int) ≤ IntKind.i64.wrap ((↑0 : Int) + (↑h54.length : Int) + h60)) && decide (IntKind.i64.wrap ((↑0 : Int) + (↑h54.length : Int) + h60) < (↑0 : Int) + (↑h57.length : Int)) then bif h57.getD ((IntKind.i64.wrap ((↑0 : Int) + (↑h54.length : Int) + h60)).toNat - 0) 0 != IntKind.u8.wrap (IntKind.i64.wrap (h60 + 1)) then out (.ret ((), ((false, ()), ()))) else bif decide ((↑h58 : Int) ≤ IntKind.i64.wrap ((↑0 : Int) + (↑h55.length : Int) + h60)) && decide (IntKind.i64.wrap ((↑0 : Int) + (↑h55.length : Int) + h60) < (↑h58 : Int) + (↑h59.length : Int)) then bif h59.getD ((IntKind.i64.wrap ((↑0 : Int) + (↑h55.length : Int) + h60)).toNat - h58) 0 != IntKind.u8.wrap (IntKind.i64.wrap (h60 + 101)) then out (.ret ((), ((false, ()), ()))) else next (h54) (h55) (h56) (h57) (h58) (h59) (IntKind.i64.wrap (h60 + 1)) else none else none else out (.pan (.ret ((), ((h54, (h55, (h56, ()))), ()))))
noncomputable def itApart_19 (n : Nat) (h54 : List Int) (h55 : List Int) (h56 : List Int) (h57 : List Int) (h58 : Nat) (h59 : List Int) (h60 : Int) : Option (DenX loApart_19.xs) := lpN tt hdApart dr lpApart 0 Go.Proofs.Try.f28 (topL Go.Proofs.Try.f28 2) n (loApart_19.st.mk' ((h54, (h55, (h56, (h57, ((h58, h59), (h60, ())))))), ())) (decX loApart_19.xs)
theorem slApart_19 (n : Nat) (h54 : List Int) (h55 : List Int) (h56 : List Int) (h57 : List Int) (h58 : Nat) (h59 : List Int) (h60 : Int) : itApart_19 (n + 1) h54 h55 h56 h57 h58 h59 h60 = stepApart_19 h54 h55 h56 h57 h58 h59 h60 (itApart_19 n) some := by kernel_rfl
theorem mk_step {i c : Nat} (h : i < 80) (hc : c ≤ 101) (o : List Int) : (o ++ [IntKind.u8.wrap (IntKind.i64.wrap ((i : Int) + (c : Int)))]) ++ (spMk c).drop (i + 1) = o ++ (spMk c).drop i := by
  rw [List.drop_eq_getElem_cons (show i < (spMk c).length by rw [spMk_len]; exact h), spMk_get h, wrap_i64 (n := (i : Int) + (c : Int)) (by omega) (by omega)]
  have : IntKind.u8.wrap ((i : Int) + (c : Int)) = ((i + c : Nat) : Int) := by
    simp [IntKind.wrap, IntKind.signed, IntKind.bits]
    omega
  rw [this]
  simp
theorem loopApart_7 (a b w : List Int) : ∀ (k : Nat) (g : List Int) (i : Nat), 80 < i + k → i ≤ 80 → g.length + (80 - i) ≤ 4294967296 → a.length ≤ g.length →
    itApart_7 k a b w g i = some (.ret ((), ((a, (b, (w, (g ++ (spMk 1).drop i, ())))), ()))) := by
  intro k
  induction k with
  | zero => intro g i _ _ _; omega
  | succ k ih =>
    intro g i h1 h2 h3 h4
    rw [slApart_7]
    unfold stepApart_7
    by_cases hl : i < 80
    · have h5 : (i : Int) < 80 := by omega
      rw [bif_true (by simpa using h5), bif_true (by simp; omega), wrap_succ hl (by rw [maxLen_eq]; omega), ih _ (i + 1) (by omega) (by omega) (by simp; omega) (by simp; omega)]
      have := mk_step (c := 1) hl (by omega) g
      have e : (((1 : Nat) : Int)) = 1 := rfl
      rw [e, wrap_succ hl (by rw [maxLen_eq]; omega)] at this
      rw [this]
    · rw [bif_false (by simp; omega), List.drop_of_length_le (by rw [spMk_len]; omega), List.append_nil]
theorem loopApart_14 (a b w g : List Int) : ∀ (k : Nat) (h : List Int) (i : Nat), 80 < i + k → i ≤ 80 → h.length + (80 - i) ≤ 4294967296 → b.length ≤ h.length →
    itApart_14 k a b w g h i = some (.ret ((), ((a, (b, (w, (g, (h ++ (spMk 101).drop i, ()))))), ()))) := by
  intro k
  induction k with
  | zero => intro g i _ _ _; omega
  | succ k ih =>
    intro h i h1 h2 h3 h4
    rw [slApart_14]
    unfold stepApart_14
    by_cases hl : i < 80
    · have h5 : (i : Int) < 80 := by omega
      rw [bif_true (by simpa using h5), bif_true (by simp; omega), wrap_succ hl (by rw [maxLen_eq]; omega), ih _ (i + 1) (by omega) (by omega) (by simp; omega) (by simp; omega)]
      have := mk_step (c := 101) hl (by omega) h
      have e : (((101 : Nat) : Int)) = 101 := rfl
      rw [e] at this
      rw [this]
    · rw [bif_false (by simp; omega), List.drop_of_length_le (by rw [spMk_len]; omega), List.append_nil]
theorem loopApart_19 (a b w g : List Int) (hg : g.drop a.length = spMk 1) (hgl : g.length ≤ maxLen) (hbl : b.length + 80 ≤ maxLen) : ∀ (k i : Nat), 80 < i + k → i ≤ 80 →
    itApart_19 k a b w g b.length (spMk 101) i = some (.pan (.ret ((), ((a, (b, (w, ()))), ())))) := by
  have hl : g.length = a.length + 80 := by
    have := congrArg List.length hg
    rw [List.length_drop, spMk_len] at this
    omega
  rw [maxLen_eq] at hgl hbl
  intro k
  induction k with
  | zero => intro i _ _; omega
  | succ k ih =>
    intro i h1 h2
    rw [slApart_19]
    unfold stepApart_19
    by_cases hlt : i < 80
    · have h5 : (i : Int) < 80 := by omega
      have e1 : IntKind.i64.wrap ((0 : Int) + (a.length : Int) + (i : Int)) = ((a.length + i : Nat) : Int) := by rw [wrap_i64] <;> omega
      have e2 : IntKind.i64.wrap ((0 : Int) + (b.length : Int) + (i : Int)) = ((b.length + i : Nat) : Int) := by rw [wrap_i64] <;> omega
      have e3 : IntKind.u8.wrap (IntKind.i64.wrap ((i : Int) + 1)) = ((i + 1 : Nat) : Int) := by
        rw [wrap_i64 (by omega) (by omega)]
        simp [IntKind.wrap, IntKind.signed, IntKind.bits]
        omega
      have e4 : IntKind.u8.wrap (IntKind.i64.wrap ((i : Int) + 101)) = ((i + 101 : Nat) : Int) := by
        rw [wrap_i64 (by omega) (by omega)]
        simp [IntKind.wrap, IntKind.signed, IntKind.bits]
        omega
      have e5 : g.getD (a.length + i) 0 = ((i + 1 : Nat) : Int) := by
        have h7 : (g.drop a.length)[i]? = some ((i + 1 : Nat) : Int) := by
          rw [hg, List.getElem?_eq_getElem (by rw [spMk_len]; exact hlt), spMk_get hlt]
        rw [List.getElem?_drop] at h7
        rw [List.getD_eq_getElem?_getD, h7]
        rfl
      have e6 : (spMk 101).getD i 0 = ((i + 101 : Nat) : Int) := by
        rw [List.getD_eq_getElem?_getD, List.getElem?_eq_getElem (by rw [spMk_len]; exact hlt), spMk_get hlt]
        rfl
      have hml : (spMk 101).length = 80 := spMk_len 101
      rw [bif_true (by simpa using h5), e1, e2, e3, e4, bif_true (by simp; omega)]
      rw [show ((a.length + i : Nat) : Int).toNat - 0 = a.length + i by omega, show ((b.length + i : Nat) : Int).toNat - b.length = i by omega, e5, e6, bif_false (by simp), bif_true (by simp; omega), bif_false (by simp), wrap_succ hlt (by rw [maxLen_eq]; omega), ih (i + 1) (by omega) (by omega)]
    · rw [bif_false (by simp; omega)]
noncomputable def bodyApart (a0 : List Int) (a1 : List Int) (a2 : List Int) : Option ioApart.Res := bif !decide (a0 = a2) then some (Out.ret ((false, ()), ())) else bif !decide (a1 = a2) then some (Out.ret ((false, ()), ())) else (FApart_7 ((spOver 0 (List.map spT a0) a0, (a1, (a2, (spOver 0 (List.map spT a0) a0, (0, ()))))), ())).run fun y => match y with | .ret ((), ((x22, x23, x24, x25, ()), ())) => (bif !decide (x23 = x24) then some (Out.ret ((false, ()), ())) else bif decide (0 ≤ (↑0 : Int) + (↑x22.length : Int)) && decide ((↑0 : Int) + (↑x22.length : Int) ≤ (↑x25.length : Int)) then bif !decide (List.take ((↑0 : Int) + (↑x22.length : Int)).toNat x25 = List.map spT x24) then some (Out.ret ((false, ()), ())) else (FApart_14 ((x22, (x23, (x24, (x25, (x23, (0, ())))))), ())).run fun y => match y with | .ret ((), ((x49, x50, x51, x52, x53, ()), ())) => (bif decide (x50.length ≤ x53.length) && true then (FApart_19 ((x49, (spOver 0 (List.map spT x50) x50, (x51, (x52, (((List.map spT x50).length, List.drop (List.map spT x50).length x53), (0, ())))))), ())).run fun y => match y with | .ret ((), ((x73, ()), ())) => (some (Out.ret ((x73, ()), ()))) | .pan (.ret ((), ((x74, x75, x76, ()), ()))) => (bif decide (x74 = List.map spT x76) then some (Out.ret ((decide (x75 = List.map spT x76), ()), ())) else some (Out.ret ((false, ()), ()))) else none) else none)
theorem runApart (a0 : List Int) (a1 : List Int) (a2 : List Int) : Io.runX tt hdApart dr lpApart ioApart Go.Proofs.Try.f28 (stApart (a0, a1, a2, ())) = bodyApart a0 a1 a2 := by kernel_rfl
/-- Both are want, and lists of their own: so they are apart. -/
def okApartB (a b w : List Int) : Bool := decide (a = w) && decide (b = w)
theorem bodyApart_eq (a b w : List Int) (ha : a.length ≤ 4294967000) (hb : b.length ≤ 4294967000) : bodyApart a b w = some (.ret ((okApartB a b w, ()), ())) := by
  unfold bodyApart okApartB
  by_cases h1 : a = w
  rotate_left
  · simp [h1]
  subst h1
  by_cases h2 : b = a
  rotate_left
  · simp [h2]
  subst h2
  have hl : (List.map spT b).length = b.length := by simp
  rw [spOver_self hl]
  have e7 : FApart_7 ((List.map spT b, b, b, List.map spT b, 0, ()), ()) = .ite true (.ret (.ret ((), ((List.map spT b, b, b, List.map spT b ++ spMk 1, ()), ())))) .no := by
    have : (decide ((0 : Int) = 0) && (decide ((List.map spT b).length ≤ 4294967000) && decide ((List.map spT b).length ≤ (List.map spT b).length))) = true := by simp; omega
    exact congrArg (fun c => Tr.ite c _ _) this
  rw [e7]
  simp only [decide_true, Bool.not_true, cond_false, Tr.run, cond_true]
  have e0 : ((0 : Int) + ((List.map spT b).length : Int)).toNat = (List.map spT b).length := by omega
  rw [bif_true (by simp; omega), e0, List.take_left']
  rotate_left
  · rfl
  simp only [decide_true, Bool.not_true, cond_false]
  have e14 : FApart_14 ((List.map spT b, b, b, List.map spT b ++ spMk 1, b, 0, ()), ()) = .ite true (.ret (.ret ((), ((List.map spT b, b, b, List.map spT b ++ spMk 1, b ++ spMk 101, ()), ())))) .no := by
    have : (decide ((0 : Int) = 0) && (decide (b.length ≤ 4294967000) && decide (b.length ≤ b.length))) = true := by simp; omega
    exact congrArg (fun c => Tr.ite c _ _) this
  rw [e14]
  simp only [Tr.run, cond_true]
  rw [bif_true (by simp)]
  have ed : List.drop (List.map spT b).length (b ++ spMk 101) = spMk 101 := by rw [hl]; simp
  rw [ed, spOver_self hl]
  have e19 : FApart_19 ((List.map spT b, List.map spT b, b, List.map spT b ++ spMk 1, ((List.map spT b).length, spMk 101), 0, ()), ()) = .ite true (.ret (.pan (.ret ((), ((List.map spT b, List.map spT b, b, ()), ()))))) .no := by
    have : (decide ((0 : Int) = 0) && (decide (List.drop (List.map spT b).length (List.map spT b ++ spMk 1) = spMk 1) && (decide ((List.map spT b).length = (List.map spT b).length) && decide (spMk 101 = spMk 101)))) = true := by simp
    exact congrArg (fun c => Tr.ite c _ _) this
  rw [e19]
  simp [Tr.run]

def apartHd : Hc := fun _ args _ A K => match args with
  | [.one (.ex _ t lo xs i j), .one (.ex _ t2 lo2 ys i2 j2), .one (.lst _ t3 ws _)] =>
    bif Nat.beq i j && (Nat.beq i2 j2 && (Nat.beq lo 0 && (Nat.beq lo2 0 && !(Nat.beq i i2)))) then
      (if h : t = .int .u8 ∧ t2 = .int .u8 ∧ t3 = .int .u8 then (bif decide (xs.length ≤ 4294967000) && decide (ys.length ≤ 4294967000) then
        (A.map (C.strip [i, i2] [])).force fun A => K (.ret (.one (.bool (okApartB (h.1 ▸ xs : List (Ty.int .u8).den) (h.2.1 ▸ ys : List (Ty.int .u8).den) (h.2.2 ▸ ws : List (Ty.int .u8).den)))) (some [])) A else none) else none) else none
  | _ => none
theorem okapart : HcOk prog 28 apartHd := by
  have htt := ttOf_ok Go.Proofs.Try.prog 400
  have hcs : HcsOk prog csApart := .cons (pure_sound okSame) (.cons okspoil (.cons (pure_sound okTurned) .nil))
  intro R args id A K r F G ts cst w vals hid hrun Rl hv
  refine ⟨⟨Go.Proofs.Try.f28, by kernel_rfl, by kernel_rfl, by kernel_rfl⟩, ?_⟩
  unfold apartHd at hrun
  split at hrun
  · rename_i e1 t lo xs i j e2 t2 lo2 ys i2 j2 e3 t3 ws own
    cases hz : Nat.beq i j && (Nat.beq i2 j2 && (Nat.beq lo 0 && (Nat.beq lo2 0 && !(Nat.beq i i2)))) with
    | false => rw [hz] at hrun; cases hrun
    | true =>
      rw [hz] at hrun
      simp only [cond_true] at hrun
      simp only [Bool.and_eq_true, Bool.not_eq_true'] at hz
      obtain ⟨z1, z2, z3, z4, z5⟩ := hz
      have z1 := Nat.eq_of_beq_eq_true z1
      have z2 := Nat.eq_of_beq_eq_true z2
      have z3 := Nat.eq_of_beq_eq_true z3
      have z4 := Nat.eq_of_beq_eq_true z4
      have z5 : i ≠ i2 := by rintro rfl; rw [Nat.beq_refl] at z5; cases z5
      subst z1 z2 z3 z4
      split at hrun
      · rename_i h
        obtain ⟨rfl, rfl, rfl⟩ := h
        simp only at hrun
        cases hg : decide (xs.length ≤ 4294967000) && decide (ys.length ≤ 4294967000) with
        | false => rw [hg] at hrun; cases hrun
        | true =>
          rw [hg] at hrun
          simp only [cond_true, AS.force_eq] at hrun
          simp only [Bool.and_eq_true, decide_eq_true_eq] at hg
          have hvl : vals.toList.length = 3 := hv.length.symm
          obtain ⟨v1, v2, v3, hvs⟩ : ∃ v1 v2 v3, vals.toList = [v1, v2, v3] := by
            match h : vals.toList with
            | [] => rw [h] at hvl; cases hvl
            | [_] => rw [h] at hvl; simp at hvl
            | [_, _] => rw [h] at hvl; simp at hvl
            | [a, b, c] => exact ⟨a, b, c, rfl⟩
            | _ :: _ :: _ :: _ :: _ => rw [h] at hvl; simp at hvl
          rw [hvs] at hv
          obtain ⟨hx1, hx2, hx3, _⟩ := hv
          have hn2 : nodupB (([(1, i), (3, i2)] : List (Nat × Nat)).map (·.2)) = true := by simp [nodupB, z5.symm]
          have hto : ∀ {xs : List Int} {k k' : Nat} {v : Value}, k' ≠ 0 → (∀ b, G.ow k = some (b, 0) → (inGh G [] [(1, i), (3, i2)]).ow k' = some (b, 0)) → Rc G w (.ex e1 (.int .u8) 0 xs k k) v → Rc (inGh G [] [(1, i), (3, i2)]) w (.ex 5 u8T 0 xs k' k') v := by
            intro xs k k' v hk0 hk h
            rcases h with h | ⟨b, cap, e0, ⟨_, _, ho⟩, h⟩
            · exact .inl h
            · exact .inr ⟨b, cap, e0, ⟨hk0, hk0, .inl (hk b (by rcases ho with h | h <;> exact h))⟩, h⟩
          have R0 : Rel (inFra G w [] [(1, i), (3, i2)]) (inGh G [] [(1, i), (3, i2)]) (stApart (xs, ys, ws, ())) (vals ++ Array.replicate ((Go.Proofs.Try.f28).ntmps - vals.size) undef) [] w := by
            refine ⟨?_, trivial, fun k cs hk => by simp [stApart] at hk, inGh_ok Rl.gh (fun i j k h => by simp [Bn.at] at h) hn2⟩
            have hs : vals.size = 3 := by simpa using hvl
            rw [hs, show (Go.Proofs.Try.f28).ntmps - 3 = 94 by kernel_rfl, Array.toList_append, Array.toList_replicate, hvs]
            refine ⟨hto (by decide) (fun b hb => by simp [inGh, hb]) hx1, hto (by decide) (fun b hb => by simp [inGh, hb]) hx2, ?_, All2.replicate (a := V.any) (b := undef) trivial 94⟩
            obtain ⟨Aa, cap, e0, g1, g2, g3, _⟩ := hx3
            exact ⟨Aa, cap, e0, g1, g2, g3, .inl rfl⟩
          refine exFn_sound (lp := lpApart) htt hm (hdT_ok hcs) (orderD_ok htt) (by kernel_rfl) ?_ hid Rl R0 ((runApart xs ys ws).trans (bodyApart_eq xs ys ws hg.1 hg.2)) hrun
          refine .step (h0 := loHd loApart_7 FApart_7) (by kernel_rfl) (loop_sound (n := 400) hm (cs := csApart) hcs (lp := lpApart) (fn := Go.Proofs.Try.f28) (.done (by kernel_rfl)) loApart_7 FApart_7 ?_)
            (.step (h0 := loHd loApart_14 FApart_14) (by kernel_rfl) (loop_sound (n := 400) hm (cs := csApart) hcs (lp := lpApart) (fn := Go.Proofs.Try.f28) (.done (by kernel_rfl)) loApart_14 FApart_14 ?_)
            (.step (h0 := loHd loApart_19 FApart_19) (by kernel_rfl) (loop_sound (n := 400) hm (cs := csApart) hcs (lp := lpApart) (fn := Go.Proofs.Try.f28) (.done (by kernel_rfl)) loApart_19 FApart_19 ?_) (.done (by kernel_rfl))))
          · rintro ⟨⟨a, b, c, g, i, ⟨⟩⟩, ⟨⟩⟩ y hw hy
            obtain ⟨hg, hy⟩ := Tr.guard hy
            simp only [Bool.and_eq_true, decide_eq_true_eq] at hg
            obtain ⟨rfl, h1, h2⟩ := hg
            refine ⟨81, (loopApart_7 a b c 81 g 0 (by omega) (by omega) (by omega) h2).trans ?_⟩
            rw [← hy]; rfl
          · rintro ⟨⟨a, b, c, g, h, i, ⟨⟩⟩, ⟨⟩⟩ y hw hy
            obtain ⟨hg, hy⟩ := Tr.guard hy
            simp only [Bool.and_eq_true, decide_eq_true_eq] at hg
            obtain ⟨rfl, h1, h2⟩ := hg
            refine ⟨81, (loopApart_14 a b c g 81 h 0 (by omega) (by omega) (by omega) h2).trans ?_⟩
            rw [← hy]; rfl
          · rintro ⟨⟨a, b, c, g, ⟨l, h⟩, i, ⟨⟩⟩, ⟨⟩⟩ y hw hy
            obtain ⟨hg, hy⟩ := Tr.guard hy
            simp only [Bool.and_eq_true, decide_eq_true_eq] at hg
            obtain ⟨rfl, h1, rfl, rfl⟩ := hg
            have w1 : g.length ≤ maxLen := hw.1.2.2.2.1.1
            have w2 : b.length + (spMk 101).length ≤ maxLen := hw.1.2.2.2.2.1.1
            rw [spMk_len] at w2
            refine ⟨81, (loopApart_19 a b c g h1 w1 w2 81 0 (by omega) (by omega)).trans ?_⟩
            rw [← hy]; rfl
      · cases hrun
  · cases hrun
end
end Go.Proofs.Ytnppjkijhcampaa.Sym

/- leatlaw07.RecPuts. -/
namespace Go.Proofs.Ytnppjkijhcampaa.Sym
open Go
set_option linter.unusedSimpArgs false
set_option linter.unusedVariables false
noncomputable section

/-! ### leat/leatlaw07.RecPuts -/
noncomputable abbrev iolPuts : Io := ⟨[dRow], [], [], [dB], none⟩
noncomputable def FlPuts (d : iolPuts.In) : Tr iolPuts.Res := .ite (spSmallR d.1.1 && spRoom d.1.1) (.ret (.ret ((true, ()), ()))) .no
noncomputable abbrev cslPuts : List (Nat × Hc) := [(9, ioHd iolalive Flalive), (16, ioHd iorTwin FrTwin), (27, ioHd iorRPut FrRPut), (24, ioHd iokCheck FkCheck), (26, ioHd iokSize FkSize),
  (15, pureHd (ioHd iokPut FkPut)), (13, ioHd iorAlike FrAlike), (28, apartHd)]
noncomputable def hdlPuts : Hd := hdT cslPuts
noncomputable def lplPuts : Lp := lpT []

noncomputable def bodylPuts (a0 : Int) (a1 : Int) (a2 : Bool) (a3 : List Int) (a4 : Bool) (a5 : List Int) (a6 : List tHead.den) : Option iolPuts.Res := bif spSmallR (a0, a1, (a2, a3, ()), (a4, a5, ()), a6, ()) then bif spRoom (a0, a1, (a2, a3, ()), (a4, a5, ()), a6, ()) then bif spRoom (a0, a1, (a2, a3, ()), (a4, a5, ()), a6, ()) then bif spCheck (a0, a1, (a2, a3, ()), (a4, a5, ()), a6, ()) != (spPutR (a0, a1, (a2, a3, ()), (a4, a5, ()), a6, ())).snd then some (Out.ret ((false, ()), ())) else bif spRoom (a0, a1, (a2, a3, ()), (a4, a5, ()), a6, ()) then bif (spPutR (a0, a1, (a2, a3, ()), (a4, a5, ()), a6, ())).snd != (spPutR (a0, a1, (a2, a3, ()), (a4, a5, ()), a6, ())).snd then some (Out.ret ((false, ()), ())) else bif (↑(spPutR (a0, a1, (a2, a3, ()), (a4, a5, ()), a6, ())).fst.length : Int) != (↑(spPutR (a0, a1, (a2, a3, ()), (a4, a5, ()), a6, ())).fst.length : Int) then some (Out.ret ((false, ()), ())) else bif spRoom (a0, a1, (a2, a3, ()), (a4, a5, ()), a6, ()) then bif spRoom (a0, a1, (a2, a3, ()), (a4, a5, ()), a6, ()) then bif (spPutR (a0, a1, (a2, a3, ()), (a4, a5, ()), a6, ())).snd != (spPutR (a0, a1, (a2, a3, ()), (a4, a5, ()), a6, ())).snd then some (Out.ret ((false, ()), ())) else bif (spPutR (a0, a1, (a2, a3, ()), (a4, a5, ()), a6, ())).snd != (spPutR (a0, a1, (a2, a3, ()), (a4, a5, ()), a6, ())).snd then some (Out.ret ((false, ()), ())) else bif !spEqR (a0, a1, (a2, a3, ()), (a4, a5, ()), a6, ()) (a0, a1, (a2, a3, ()), (a4, a5, ()), a6, ()) then some (Out.ret ((false, ()), ())) else bif decide ((spPutR (a0, a1, (a2, a3, ()), (a4, a5, ()), a6, ())).fst.length ≤ 4294967000) && decide ((spPutR (a0, a1, (a2, a3, ()), (a4, a5, ()), a6, ())).fst.length ≤ 4294967000) then bif decide ((spPutR (a0, a1, (a2, a3, ()), (a4, a5, ()), a6, ())).fst = (spPutR (a0, a1, (a2, a3, ()), (a4, a5, ()), a6, ())).fst) && decide ((spPutR (a0, a1, (a2, a3, ()), (a4, a5, ()), a6, ())).fst = (spPutR (a0, a1, (a2, a3, ()), (a4, a5, ()), a6, ())).fst) then some (Out.ret ((spEqR (a0, a1, (a2, a3, ()), (a4, a5, ()), a6, ()) (a0, a1, (a2, a3, ()), (a4, a5, ()), a6, ()), ()), ())) else some (Out.ret ((false, ()), ())) else none else none else none else none else none else none else none
theorem runlPuts (a0 : Int) (a1 : Int) (a2 : Bool) (a3 : List Int) (a4 : Bool) (a5 : List Int) (a6 : List tHead.den) : Io.run tt hdlPuts dr lplPuts iolPuts Go.Proofs.Try.f8 (((a0, a1, (a2, a3, ()), (a4, a5, ()), a6, ()), ()), ()) = bodylPuts a0 a1 a2 a3 a4 a5 a6 := by kernel_rfl
theorem spPutR_two (r : RowD) : spCheck r = (spPutR r).2 ∧ (spPutR r).1.length ≤ 20000 := by
  by_cases h : spCheck r = 0
  · rw [spPutR_zero h]
    refine ⟨h, ?_⟩
    have h1 := (spCheck_zero h).2
    have h2 := spDig_len (spZig (spBody r).length)
    simp only [List.length_append]
    omega
  · have e : spPutR r = ([], spCheck r) := by unfold spPutR; rw [if_neg h]
    rw [e]
    exact ⟨rfl, by simp⟩
theorem oklPuts : HcOk prog 8 (ioHd iolPuts FlPuts) := by
  refine fn_sound (n := 400) hm (cs := cslPuts) (.cons oklalive (.cons okrTwin (.cons okrRPut (.cons okkCheck (.cons okkSize (.cons (pure_sound okkPut) (.cons okrAlike (.cons okapart .nil)))))))) (lp := lplPuts) (fn := Go.Proofs.Try.f8) (by kernel_rfl) (by kernel_rfl) (by kernel_rfl) iolPuts (.done (by kernel_rfl)) FlPuts ?_
  rintro ⟨⟨⟨a0, a1, ⟨a2, a3, ⟨⟩⟩, ⟨a4, a5, ⟨⟩⟩, a6, ⟨⟩⟩, ⟨⟩⟩, ⟨⟩⟩ out hw ho
  obtain ⟨hg, ho⟩ := Tr.guard ho
  simp only [Bool.and_eq_true] at hg
  cases ho
  refine (runlPuts a0 a1 a2 a3 a4 a5 a6).trans ?_
  unfold bodylPuts
  obtain ⟨h1, h2⟩ := spPutR_two (a0, a1, (a2, a3, ()), (a4, a5, ()), a6, ())
  have h3 : spEqR (a0, a1, (a2, a3, ()), (a4, a5, ()), a6, ()) (a0, a1, (a2, a3, ()), (a4, a5, ()), a6, ()) = true := spEqR_iff.2 rfl
  have h4 : decide ((spPutR (a0, a1, (a2, a3, ()), (a4, a5, ()), a6, ())).1.length ≤ 4294967000) = true := by simp; omega
  simp only [hg.1, hg.2, h1, h3, h4, cond_true, cond_false, bne_self_eq_false, Bool.not_true, decide_true, Bool.and_self]
end
end Go.Proofs.Ytnppjkijhcampaa.Sym

/- A row's bulk bounds what is written of it. -/
namespace Go.Proofs.Ytnppjkijhcampaa.Sym
open Go
set_option linter.unusedSimpArgs false
set_option linter.unusedVariables false
noncomputable section

theorem sum_ones {k : IntKind} : ∀ b : List Int, (List.map (dsz (.int k)) b).sum = b.length
  | [] => rfl
  | c :: b => by
    have := sum_ones (k := k) b
    rw [List.map_cons, List.sum_cons, this, List.length_cons]
    show 1 + _ = _
    omega
theorem dsz_bs (b : List Int) : dsz bs b = b.length + 1 := by
  show (List.map (dsz (.int .u8)) b).sum + 1 = _
  rw [sum_ones]
theorem spBlob_len (B : Blob) : (spBlob B).length ≤ 11 + B.2.1.length := by
  unfold spBlob
  split
  · have := spDig_len (spZig (-1)); omega
  · have := spDig_len (spZig B.2.1.length)
    simp only [List.length_append]
    omega
theorem dsz_blob (B : Blob) : dsz tBlob B = B.2.1.length + 2 := by
  show 1 + (dsz bs B.2.1 + 0) = _
  rw [dsz_bs]
  omega
theorem dsz_head (h : Head) : dsz tHead h = h.1.length + 1 + (h.2.1.2.1.length + 2) := by
  show (h.1.length + 1) + (dsz tBlob h.2.1 + 0) = _
  rw [dsz_blob]
theorem heads_bulk : ∀ hs : List Head, (spWHeads hs).length ≤ 22 * (List.map (dsz tHead) hs).sum ∧ hs.length ≤ (List.map (dsz tHead) hs).sum ∧ ∀ h ∈ hs, h.2.1.2.1.length ≤ (List.map (dsz tHead) hs).sum
  | [] => ⟨by simp [spWHeads], by simp, by simp⟩
  | h :: hs => by
    obtain ⟨g1, g2, g3⟩ := heads_bulk hs
    have e : spWHeads (h :: hs) = spWHead h ++ spWHeads hs := by simp [spWHeads]
    have h1 := spDig_len (spZig h.1.length)
    have h2 := spBlob_len h.2.1
    have h3 : (spWHead h).length = (spDig (spZig h.1.length)).length + (h.1.length + (spBlob h.2.1).length) := by simp [spWHead]
    rw [List.map_cons, List.sum_cons, dsz_head, e, List.length_append, List.length_cons]
    refine ⟨by omega, by omega, fun x hx => ?_⟩
    rcases List.mem_cons.1 hx with rfl | hx
    · omega
    · have := g3 x hx; omega
theorem row_bulk {r : RowD} (h : dsz tRow r ≤ 1048576) : spSmallR r = true ∧ spRoom r = true := by
  obtain ⟨a0, a1, B1, B2, hs, ⟨⟩⟩ := r
  have hd : dsz tRow (a0, a1, B1, B2, hs, ()) = 1 + (1 + (dsz tBlob B1 + (dsz tBlob B2 + (((List.map (dsz tHead) hs).sum + 1) + 0)))) := rfl
  rw [hd, dsz_blob, dsz_blob] at h
  obtain ⟨g1, g2, g3⟩ := heads_bulk hs
  refine ⟨?_, ?_⟩
  · show (decide (B1.2.1.length ≤ 4294967296) && (decide (B2.2.1.length ≤ 4294967296) && spSmall hs)) = true
    simp only [Bool.and_eq_true, decide_eq_true_eq]
    refine ⟨by omega, by omega, spSmall_iff.2 ⟨by omega, fun h hh => ?_⟩⟩
    have := g3 h hh
    omega
  · refine decide_eq_true ?_
    have e : spBody (a0, a1, B1, B2, hs, ()) = 0 :: (spDig (spZig a0) ++ (spDig (spZig a1) ++ (spBlob B1 ++ (spBlob B2 ++ (spDig (spZig hs.length) ++ spWHeads hs))))) := rfl
    have h1 := spDig_len (spZig a0)
    have h2 := spDig_len (spZig a1)
    have h3 := spDig_len (spZig hs.length)
    have h4 := spBlob_len B1
    have h5 := spBlob_len B2
    rw [e]
    simp only [List.length_cons, List.length_append]
    omega
end
end Go.Proofs.Ytnppjkijhcampaa.Sym
