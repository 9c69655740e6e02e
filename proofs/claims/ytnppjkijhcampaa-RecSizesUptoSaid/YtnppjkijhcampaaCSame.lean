/- leatref01: Same, Copy. -/
import Derived.Test.YtnppjkijhcampaaBase

namespace Go.Proofs.Ytnppjkijhcampaa.Sym
open Go
set_option linter.unusedSimpArgs false
set_option linter.unusedVariables false
noncomputable section

/-! ### leat/leatref01.Same -/
noncomputable abbrev ioSame : Io := ⟨[dL, dL], [], [], [dB], none⟩
noncomputable def FSame (d : ioSame.In) : Tr ioSame.Res := .ret (.ret ((decide (d.1.1 = d.1.2.1), ()), ()))
noncomputable abbrev csSame : List (Nat × Hc) := []
noncomputable def hdSame : Hd := hdT csSame
noncomputable abbrev loSame_5 : Lo := ⟨⟨[.one (.hol (.sl 5 (Ty.int IntKind.u8))), .one (.hol (.sl 5 (Ty.int IntKind.u8))), .any, .any, .any, .one (.hol (.int IntKind.i64)), .any, .any, .any, .any, .any, .any, .any, .any, .any, .any, .any, .any, .any, .any, .any, .any, .any, .any, .any, .any], []⟩, [(.ret, ⟨[.any, .any, .any, .any, .one (.hol .bool), .any, .any, .any, .any, .any, .any, .any, .any, .any, .any, .any, .any, .any, .any, .any, .any, .any, .any, .any, .any, .any], []⟩), (.exit 0, ⟨[.any, .any, .any, .any, .any, .any, .any, .any, .any, .any, .any, .any, .any, .any, .any, .any, .any, .any, .any, .any, .any, .any, .any, .any, .any, .any], []⟩)]⟩
-- FSame_5 : loSame_5.st.den → Tr (DenX loSame_5.xs) | ((h2, (h3, (h4, ()))), ())
noncomputable def FSame_5 (d : loSame_5.st.den) : Tr (DenX loSame_5.xs) :=
  .ite (decide (0 ≤ d.1.2.2.1) && decide (d.1.1.length = d.1.2.1.length)) (.ite (decide (d.1.1.drop d.1.2.2.1.toNat = d.1.2.1.drop d.1.2.2.1.toNat)) (.ret (.pan (.ret ((), ((), ()))))) (.ret (.ret ((), ((false, ()), ()))))) .no
noncomputable def lpSame : Lp := lpT [(5, loHd loSame_5 FSame_5)]
noncomputable def stepSame_5 {R : Type} (h2 : List Int) (h3 : List Int) (h4 : Int) (next : List Int → List Int → Int → Option R) (out : DenX loSame_5.xs → Option R) : Option R := bif decide (h4 < (↑h2.length : Int)) then bif decide (0 ≤ h4) && decide (h4 < (↑h2.length : Int)) then bif decide (0 ≤ h4) && decide (h4 < (↑h3.length : Int)) then bif h2.getD h4.toNat 0 != h3.getD h4.toNat 0 then out (.ret ((), ((false, ()), ()))) else next (h2) (h3) (IntKind.i64.wrap (h4 + 1)) else none else none else out (.pan (.ret ((), ((), ()))))
noncomputable def itSame_5 (n : Nat) (h2 : List Int) (h3 : List Int) (h4 : Int) : Option (DenX loSame_5.xs) := lpN tt hdSame dr lpSame 0 Go.Proofs.Try.f25 (topL Go.Proofs.Try.f25 0) n (loSame_5.st.mk' ((h2, (h3, (h4, ()))), ())) (decX loSame_5.xs)
theorem slSame_5 (n : Nat) (h2 : List Int) (h3 : List Int) (h4 : Int) : itSame_5 (n + 1) h2 h3 h4 = stepSame_5 h2 h3 h4 (itSame_5 n) some := by kernel_rfl
theorem loopSame (xs ys : List Int) (hl : xs.length = ys.length) (hb : xs.length ≤ maxLen) : ∀ (k i : Nat), i ≤ xs.length → xs.length < i + k →
    itSame_5 k xs ys (i : Int) = if xs.drop i = ys.drop i then some (.pan (.ret ((), ((), ())))) else some (.ret ((), ((false, ()), ()))) := by
  intro k
  induction k with
  | zero => intro i h h'; omega
  | succ k ih =>
    intro i hi h
    rw [slSame_5]
    unfold stepSame_5
    by_cases h1 : i < xs.length
    · have h2 : i < ys.length := by omega
      rw [wrap_succ h1 hb, ih (i + 1) h1 (by omega)]
      have e : (xs.drop i = ys.drop i) ↔ (xs[i] = ys[i] ∧ xs.drop (i + 1) = ys.drop (i + 1)) := by rw [List.drop_eq_getElem_cons h1, List.drop_eq_getElem_cons h2, List.cons.injEq]
      simp only [Int.toNat_natCast, getD_lt h1, getD_lt h2]
      by_cases he : xs[i] = ys[i] <;> simp [h1, h2, he, e, cond_eq_ite]
    · rw [List.drop_of_length_le (by omega), List.drop_of_length_le (by omega)]
      simp [h1]
noncomputable def bodySame (a0 : List Int) (a1 : List Int) : Option ioSame.Res := bif (↑a0.length : Int) != (↑a1.length : Int) then some (Out.ret ((false, ()), ())) else (FSame_5 ((a0, (a1, (0, ()))), ())).run fun y => match y with | .ret ((), ((x9, ()), ())) => (some (Out.ret ((x9, ()), ()))) | .pan (.ret ((), ((), ()))) => (some (Out.ret ((true, ()), ())))
theorem runSame (a0 : List Int) (a1 : List Int) : Io.run tt hdSame dr lpSame ioSame Go.Proofs.Try.f25 ((a0, a1, ()), ()) = bodySame a0 a1 := by kernel_rfl
theorem okSame : HcOk prog 25 (ioHd ioSame FSame) := by
  refine fn_sound (n := 400) hm (cs := csSame) HcsOk.nil (lp := lpSame) (fn := Go.Proofs.Try.f25) (by kernel_rfl) (by kernel_rfl) (by kernel_rfl) ioSame
    (.step (h0 := loHd loSame_5 FSame_5) (by kernel_rfl) (loop_sound (n := 400) hm (cs := csSame) HcsOk.nil (lp := lpSame) (fn := Go.Proofs.Try.f25) (.done (by kernel_rfl)) loSame_5 FSame_5 ?_) (.done (by kernel_rfl))) FSame ?_
  · rintro ⟨⟨xs, ys, i, ⟨⟩⟩, ⟨⟩⟩ y hw hy
    obtain ⟨hg, hy⟩ := Tr.guard hy
    simp only [Bool.and_eq_true, decide_eq_true_eq] at hg
    obtain ⟨n, rfl⟩ := toNat_of hg.1
    by_cases hn : n ≤ xs.length
    · refine ⟨xs.length + 1, (loopSame xs ys hg.2 hw.1.1.1 _ n hn (by omega)).trans ?_⟩
      rw [← hy]
      simp only [Tr.val_ite, decide_eq_true_eq, Int.toNat_natCast, Tr.val_ret]
    · refine ⟨1, ?_⟩
      show itSame_5 (0 + 1) xs ys n = _
      rw [slSame_5, ← hy]
      unfold stepSame_5
      have h1 : ¬ n < xs.length := by omega
      simp [Tr.val_ite, Tr.val_ret, h1, List.drop_of_length_le (show xs.length ≤ n by omega), List.drop_of_length_le (show ys.length ≤ n by omega)]
  · rintro ⟨⟨xs, ys, ⟨⟩⟩, ⟨⟩⟩ out hw ho
    refine (runSame xs ys).trans ?_
    cases ho
    unfold bodySame
    by_cases hl : xs.length = ys.length
    · by_cases he : xs = ys
      · subst he; simp [FSame_5, Tr.run]
      · simp [FSame_5, Tr.run, hl, he]
    · have : xs ≠ ys := fun e => hl (by rw [e])
      have h2 : (xs.length : Int) ≠ ys.length := by omega
      simp [this, h2, cond_eq_ite]

end
end Go.Proofs.Ytnppjkijhcampaa.Sym
