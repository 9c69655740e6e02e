/- leatref02: numbers read. -/
import Derived.Test.YtnppjkijhcampaaCVref

namespace Go.Proofs.Ytnppjkijhcampaa.Sym
open Go
set_option linter.unusedSimpArgs false
set_option linter.unusedVariables false
noncomputable section

/-- The last byte's place and the error. -/
noncomputable def spRd (most : Nat) (top : Int) : List Int → Nat → Int × Int
  | [], _ => (0, 1)
  | c :: l, i => if i + 1 = most ∧ top < c then (0, 21) else if c < 128 then (if c = 0 ∧ 0 < i then (0, 20) else ((i : Int), 0)) else spRd most top l (i + 1)
/-- Bytes as digits of 128, the lowest first. -/
noncomputable def spVal : List Int → Int
  | [] => 0
  | c :: l => c % 128 + 128 * spVal l

/-! ### leat/leatref02.get -/
noncomputable abbrev iorget : Io := ⟨[dL, dI, dI, dU], [], [], [dI, dI], none⟩
noncomputable def Frget (d : iorget.In) : Tr iorget.Res :=
  .ite (decide (d.1.2.1 < 0) || decide ((d.1.1.length : Int) < d.1.2.1)) (.ret (.ret ((0, 3, ()), ())))
    (.ite (decide (1 ≤ d.1.2.2.1) && (decide (d.1.2.2.1 ≤ 10) && decide (d.1.2.2.2.1 < 128)))
      (.ite (decide ((spRd d.1.2.2.1.toNat d.1.2.2.2.1 (d.1.1.drop d.1.2.1.toNat) 0).2 = 0))
        (.ret (.ret ((d.1.2.1 + (spRd d.1.2.2.1.toNat d.1.2.2.2.1 (d.1.1.drop d.1.2.1.toNat) 0).1, 0, ()), ())))
        (.ret (.ret ((0, (spRd d.1.2.2.1.toNat d.1.2.2.2.1 (d.1.1.drop d.1.2.1.toNat) 0).2, ()), ())))) .no)
noncomputable abbrev csrget : List (Nat × Hc) := []
noncomputable def hdrget : Hd := hdT csrget
noncomputable abbrev lorget_5 : Lo := ⟨⟨[.one (.hol (.sl 5 (Ty.int IntKind.u8))), .one (.hol (.int IntKind.i64)), .one (.hol (.int IntKind.i64)), .one (.hol (.int IntKind.u8)), .any, .any, .any, .any, .any, .any, .one (.hol (.int IntKind.i64)), .any, .any, .any, .any, .any, .any, .any, .any, .any, .any, .any, .any, .any, .any, .any, .any, .any, .any, .any, .any, .any, .any, .any, .any, .any, .any, .any, .any, .any, .any, .any, .any, .any, .any, .any, .any, .any, .any, .any, .any, .any, .any, .any, .any, .any, .any], []⟩, [(.ret, ⟨[.any, .any, .any, .any, .any, .any, .any, .any, .one (.hol (.int IntKind.i64)), .one (.hol (.int IntKind.i64)), .any, .any, .any, .any, .any, .any, .any, .any, .any, .any, .any, .any, .any, .any, .any, .any, .any, .any, .any, .any, .any, .any, .any, .any, .any, .any, .any, .any, .any, .any, .any, .any, .any, .any, .any, .any, .any, .any, .any, .any, .any, .any, .any, .any, .any, .any, .any], []⟩), (.exit 0, ⟨[.any, .any, .any, .any, .any, .any, .any, .any, .any, .any, .any, .any, .any, .any, .any, .any, .any, .any, .any, .any, .any, .any, .any, .any, .any, .any, .any, .any, .any, .any, .any, .any, .any, .any, .any, .any, .any, .any, .any, .any, .any, .any, .any, .any, .any, .any, .any, .any, .any, .any, .any, .any, .any, .any, .any, .any, .any], []⟩)]⟩
-- Frget_5 : lorget_5.st.den → Tr (DenX lorget_5.xs) | ((h4, (h5, (h6, (h7, (h8, ()))))), ())
noncomputable def Frget_5 (d : lorget_5.st.den) : Tr (DenX lorget_5.xs) :=
  .ite (decide (0 ≤ d.1.2.1) && (decide (d.1.2.1 ≤ (d.1.1.length : Int)) && (decide (1 ≤ d.1.2.2.1) && (decide (d.1.2.2.1 ≤ 10) && (decide (d.1.2.2.2.1 < 128) && decide (d.1.2.2.2.2.1 = 0))))))
      (.ite (decide ((spRd d.1.2.2.1.toNat d.1.2.2.2.1 (d.1.1.drop d.1.2.1.toNat) 0).2 = 0))
        (.ret (.ret ((), ((d.1.2.1 + (spRd d.1.2.2.1.toNat d.1.2.2.2.1 (d.1.1.drop d.1.2.1.toNat) 0).1, (0, ())), ()))))
        (.ret (.ret ((), ((0, ((spRd d.1.2.2.1.toNat d.1.2.2.2.1 (d.1.1.drop d.1.2.1.toNat) 0).2, ())), ()))))) .no
noncomputable def lprget : Lp := lpT [(5, loHd lorget_5 Frget_5)]
noncomputable def steprget_5 {R : Type} (h4 : List Int) (h5 : Int) (h6 : Int) (h7 : Int) (h8 : Int) (next : List Int → Int → Int → Int → Int → Option R) (out : DenX lorget_5.xs → Option R) : Option R := bif decide (h8 < h6) then bif decide (IntKind.i64.wrap ((↑h4.length : Int) - h5) ≤ h8) then out (.ret ((), ((0, (1, ())), ()))) else bif decide (0 ≤ IntKind.i64.wrap (h5 + h8)) && decide (IntKind.i64.wrap (h5 + h8) < (↑h4.length : Int)) then bif h8 == IntKind.i64.wrap (h6 - 1) then bif decide (h7 < h4.getD (IntKind.i64.wrap (h5 + h8)).toNat 0) then out (.ret ((), ((0, (21, ())), ()))) else bif decide (h4.getD (IntKind.i64.wrap (h5 + h8)).toNat 0 < 128) then bif h4.getD (IntKind.i64.wrap (h5 + h8)).toNat 0 == 0 then bif decide (0 < h8) then out (.ret ((), ((0, (20, ())), ()))) else out (.ret ((), ((IntKind.i64.wrap (h5 + h8), (0, ())), ()))) else out (.ret ((), ((IntKind.i64.wrap (h5 + h8), (0, ())), ()))) else next (h4) (h5) (h6) (h7) (IntKind.i64.wrap (h8 + 1)) else bif decide (h4.getD (IntKind.i64.wrap (h5 + h8)).toNat 0 < 128) then bif h4.getD (IntKind.i64.wrap (h5 + h8)).toNat 0 == 0 then bif decide (0 < h8) then out (.ret ((), ((0, (20, ())), ()))) else out (.ret ((), ((IntKind.i64.wrap (h5 + h8), (0, ())), ()))) else out (.ret ((), ((IntKind.i64.wrap (h5 + h8), (0, ())), ()))) else next (h4) (h5) (h6) (h7) (IntKind.i64.wrap (h8 + 1)) else none else out (.pan (.ret ((), ((), ()))))
noncomputable def itrget_5 (n : Nat) (h4 : List Int) (h5 : Int) (h6 : Int) (h7 : Int) (h8 : Int) : Option (DenX lorget_5.xs) := lpN tt hdrget dr lprget 0 Go.Proofs.Try.f53 (topL Go.Proofs.Try.f53 0) n (lorget_5.st.mk' ((h4, (h5, (h6, (h7, (h8, ()))))), ())) (decX lorget_5.xs)
theorem slrget_5 (n : Nat) (h4 : List Int) (h5 : Int) (h6 : Int) (h7 : Int) (h8 : Int) : itrget_5 (n + 1) h4 h5 h6 h7 h8 = steprget_5 h4 h5 h6 h7 h8 (itrget_5 n) some := by kernel_rfl
theorem looprget (b : List Int) (at_ most : Nat) (top : Int) (hb : b.length ≤ maxLen) (ha : at_ ≤ b.length) (hm : most ≤ 10) (ht : top < 128) : ∀ (k i : Nat), i < most → most < i + k →
    itrget_5 k b at_ most top i = some (.ret ((), ((if (spRd most top (b.drop (at_ + i)) i).2 = 0 then at_ + (spRd most top (b.drop (at_ + i)) i).1 else 0, ((spRd most top (b.drop (at_ + i)) i).2, ())), ()))) := by
  intro k
  rw [maxLen_eq] at hb
  induction k with
  | zero => intro i h1 h2; omega
  | succ k ih =>
    intro i h1 h2
    rw [slrget_5]
    unfold steprget_5
    have e1 : IntKind.i64.wrap ((b.length : Int) - at_) = (b.length : Int) - at_ := wrap_i64 (by omega) (by omega)
    have e3 : IntKind.i64.wrap ((most : Int) - 1) = (most : Int) - 1 := wrap_i64 (by omega) (by omega)
    have e4 : IntKind.i64.wrap ((i : Int) + 1) = ((i + 1 : Nat) : Int) := by rw [wrap_i64] <;> omega
    rw [bif_true (by simpa using h1), e1, e3, e4]
    by_cases hl : (b.length : Int) - at_ ≤ i
    · rw [bif_true (by simpa using hl), List.drop_of_length_le (by omega)]
      simp [spRd]
    · have hlt : at_ + i < b.length := by omega
      have e2 : IntKind.i64.wrap ((at_ : Int) + i) = ((at_ + i : Nat) : Int) := by rw [wrap_i64] <;> omega
      rw [bif_false (by simpa using hl), e2, List.drop_eq_getElem_cons hlt]
      simp only [Int.toNat_natCast, getD_lt hlt]
      rw [bif_true (by simp; omega)]
      generalize b[at_ + i] = c
      have hnext : i + 1 < most → itrget_5 k b at_ most top ((i + 1 : Nat) : Int) = _ := fun h => ih (i + 1) h (by omega)
      have e5 : at_ + i + 1 = at_ + (i + 1) := by omega
      rw [← e5] at hnext
      simp only [spRd]
      by_cases h3 : i + 1 = most
      · have h3' : ((i : Int) == (most : Int) - 1) = true := by simp; omega
        rw [bif_true h3']
        by_cases h4 : top < c
        · simp [h3, h4]
        · have h5 : c < 128 := by omega
          by_cases h6 : c = 0
          · subst h6
            by_cases h7 : 0 < i <;> simp [h3, h4, h7, cond_eq_ite]
          · simp [h3, h4, h5, h6, cond_eq_ite]
      · have h3' : ((i : Int) == (most : Int) - 1) = false := by simp; omega
        rw [bif_false h3']
        by_cases h5 : c < 128
        · by_cases h6 : c = 0 <;> by_cases h7 : 0 < i <;> simp [h3, h5, h6, h7, cond_eq_ite]
        · rw [hnext (by omega)]
          simp [h3, h5, cond_eq_ite]
noncomputable def bodyrget (a0 : List Int) (a1 : Int) (a2 : Int) (a3 : Int) : Option iorget.Res := bif decide (a1 < 0) then some (Out.ret ((0, 3, ()), ())) else bif decide ((↑a0.length : Int) < a1) then some (Out.ret ((0, 3, ()), ())) else (Frget_5 ((a0, (a1, (a2, (a3, (0, ()))))), ())).run fun y => match y with | .ret ((), ((x35, x36, ()), ())) => (some (Out.ret ((x35, x36, ()), ()))) | .pan (.ret ((), ((), ()))) => (some (Out.ret ((0, 21, ()), ())))
theorem runrget (a0 : List Int) (a1 : Int) (a2 : Int) (a3 : Int) : Io.run tt hdrget dr lprget iorget Go.Proofs.Try.f53 ((a0, a1, a2, a3, ()), ()) = bodyrget a0 a1 a2 a3 := by kernel_rfl
theorem okrget : HcOk prog 53 (ioHd iorget Frget) := by
  refine fn_sound (n := 400) hm (cs := csrget) .nil (lp := lprget) (fn := Go.Proofs.Try.f53) (by kernel_rfl) (by kernel_rfl) (by kernel_rfl) iorget
    (.step (h0 := loHd lorget_5 Frget_5) (by kernel_rfl) (loop_sound (n := 400) hm (cs := csrget) .nil (lp := lprget) (fn := Go.Proofs.Try.f53) (.done (by kernel_rfl)) lorget_5 Frget_5 ?_) (.done (by kernel_rfl))) Frget ?_
  · rintro ⟨⟨(b : List Int), (p : Int), (m : Int), (t : Int), (i : Int), ⟨⟩⟩, ⟨⟩⟩ y hw hy
    obtain ⟨hg, hy⟩ := Tr.guard hy
    simp only [Bool.and_eq_true, decide_eq_true_eq] at hg
    obtain ⟨h1, h2, h3, h4, h5, rfl⟩ := hg
    have h1 : (0 : Int) ≤ p := h1
    have h2 : p ≤ (b.length : Int) := h2
    have h3 : (1 : Int) ≤ m := h3
    have h4 : m ≤ (10 : Int) := h4
    have h5 : t < (128 : Int) := h5
    obtain ⟨p, rfl⟩ := toNat_of h1
    obtain ⟨m, rfl⟩ := toNat_of (show 0 ≤ m by omega)
    refine ⟨m + 1, (looprget b p m t hw.1.1.1 (by omega) (by omega) h5 _ 0 (by omega) (by omega)).trans ?_⟩
    rw [← hy]
    simp only [Tr.val_ite, Tr.val_ret, Int.toNat_natCast, Nat.add_zero, decide_eq_true_eq]
    by_cases he : (spRd m t (b.drop p) 0).2 = 0 <;> simp [he]
  · rintro ⟨⟨(b : List Int), (p : Int), (m : Int), (t : Int), ⟨⟩⟩, ⟨⟩⟩ out hw ho
    refine (runrget b p m t).trans ?_
    rw [← ho]
    unfold bodyrget Frget Frget_5
    simp only [Tr.val_ite, Tr.val_ret, Tr.val_no, Tr.run_ite, Tr.run_ret, Tr.run_no, Bool.and_eq_true, Bool.or_eq_true, decide_eq_true_eq, cond_eq_ite]
    by_cases h1 : p < 0
    · simp [h1]
    · by_cases h2 : (b.length : Int) < p
      · simp [h1, h2]
      · have h3 : 0 ≤ p := by omega
        have h4 : p ≤ (b.length : Int) := by omega
        simp only [h1, h2, h3, h4, if_false, if_true, or_self, true_and, and_true]

end
end Go.Proofs.Ytnppjkijhcampaa.Sym
