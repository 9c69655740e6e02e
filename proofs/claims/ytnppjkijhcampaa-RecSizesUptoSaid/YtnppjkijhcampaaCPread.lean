/- vint.read. -/
import Derived.Test.YtnppjkijhcampaaCPnum

namespace Go.Proofs.Ytnppjkijhcampaa.Sym
open Go
set_option linter.unusedSimpArgs false
set_option linter.unusedVariables false
noncomputable section

theorem spVal_lt : ∀ l : List Int, 0 ≤ spVal l ∧ spVal l < 128 ^ l.length
  | [] => by simp [spVal]
  | c :: l => by
    have := spVal_lt l
    simp only [spVal, List.length_cons, Int.pow_succ]
    omega
/-- The last byte that most and top let in does not pass 64 bits. -/
noncomputable def spFit (m : Int) (t : Int) : Bool := (decide (m = 10) && decide (t = 1)) || (decide (m = 5) && decide (t = 15))

/-! ### leat/vint.read -/
noncomputable abbrev iopread : Io := ⟨[dL, dI, dI, dU], [], [], [dV, dI, dI], none⟩
noncomputable def Fpread (d : iopread.In) : Tr iopread.Res :=
  .ite (spFit d.1.2.2.1 d.1.2.2.2.1) (.ret (.ret (((spGet d.1.2.2.1.toNat d.1.2.2.2.1 d.1.1 d.1.2.1).1, (spGet d.1.2.2.1.toNat d.1.2.2.2.1 d.1.1 d.1.2.1).2.1, (spGet d.1.2.2.1.toNat d.1.2.2.2.1 d.1.1 d.1.2.1).2.2, ()), ()))) .no
noncomputable abbrev cspread : List (Nat × Hc) := []
noncomputable def hdpread : Hd := hdT cspread
noncomputable abbrev lopread_6 : Lo := ⟨⟨[.any, .one (.hol (.int IntKind.i64)), .one (.hol (.int IntKind.i64)), .one (.hol (.int IntKind.u8)), .any, .any, .any, .any, .any, .any, .any, .one (.hol (.int IntKind.u64)), .any, .any, .any, .any, .any, .any, .any, .any, .any, .any, .any, .any, .one (.hol (.sl 5 (Ty.int IntKind.u8))), .one (.hol (.int IntKind.i64)), .one (.hol (.int IntKind.i64)), .any, .any, .any, .any, .any, .any, .any, .any, .any, .any, .any, .any, .any, .any, .any, .any, .any, .any, .any, .any, .any, .any, .any, .any, .any, .any, .any, .any, .any, .any, .any, .any, .any, .any, .any], []⟩, [(.ret, ⟨[.any, .any, .any, .any, .any, .any, .any, .any, .one (.hol (.int IntKind.u64)), .one (.hol (.int IntKind.i64)), .one (.hol (.int IntKind.i64)), .any, .any, .any, .any, .any, .any, .any, .any, .any, .any, .any, .any, .any, .any, .any, .any, .any, .any, .any, .any, .any, .any, .any, .any, .any, .any, .any, .any, .any, .any, .any, .any, .any, .any, .any, .any, .any, .any, .any, .any, .any, .any, .any, .any, .any, .any, .any, .any, .any, .any, .any], []⟩), (.exit 0, ⟨[.any, .any, .any, .any, .any, .any, .any, .any, .any, .any, .any, .any, .any, .any, .any, .any, .any, .any, .any, .any, .any, .any, .any, .any, .any, .any, .any, .any, .any, .any, .any, .any, .any, .any, .any, .any, .any, .any, .any, .any, .any, .any, .any, .any, .any, .any, .any, .any, .any, .any, .any, .any, .any, .any, .any, .any, .any, .any, .any, .any, .any, .any], []⟩)]⟩
-- Fpread_6 : lopread_6.st.den → Tr (DenX lopread_6.xs) | ((h4, (h5, (h6, (h7, (h8, (h9, (h10, ()))))))), ())
noncomputable def Fpread_6 (d : lopread_6.st.den) : Tr (DenX lopread_6.xs) :=
  .ite (spFit d.1.2.1 d.1.2.2.1 && (decide (d.1.2.2.2.1 = (0 : Int)) && (decide (d.1.2.2.2.2.2.2.1 = (0 : Int)) && (decide ((d.1.2.2.2.2.1.length : Int) = d.1.2.2.2.2.2.1) && (decide ((0 : Int) ≤ d.1.1) && decide ((d.1.1 : Int) + (d.1.2.2.2.2.1.length : Int) ≤ 9223372036854775807))))))
    (.ite (decide ((spRd d.1.2.1.toNat d.1.2.2.1 d.1.2.2.2.2.1 0).2 = 0))
      (.ret (.ret ((), ((spVal (d.1.2.2.2.2.1.take ((spRd d.1.2.1.toNat d.1.2.2.1 d.1.2.2.2.2.1 0).1 + 1).toNat) % 18446744073709551616, (d.1.1 + (spRd d.1.2.1.toNat d.1.2.2.1 d.1.2.2.2.2.1 0).1 + 1, (0, ()))), ()))))
      (.ite (decide ((spRd d.1.2.1.toNat d.1.2.2.1 d.1.2.2.2.2.1 0).2 = 1)) (.ret (.pan (.ret ((), ((), ())))))
        (.ret (.ret ((), ((0, (0, ((spRd d.1.2.1.toNat d.1.2.2.1 d.1.2.2.2.2.1 0).2, ()))), ())))))) .no
noncomputable def lppread : Lp := lpT [(6, loHd lopread_6 Fpread_6)]
noncomputable def steppread_6 {R : Type} (h4 : Int) (h5 : Int) (h6 : Int) (h7 : Int) (h8 : List Int) (h9 : Int) (h10 : Int) (next : Int → Int → Int → Int → List Int → Int → Int → Option R) (out : DenX lopread_6.xs → Option R) : Option R := bif decide (h10 < h9) then bif decide (0 ≤ h10) && decide (h10 < (↑h8.length : Int)) then bif h10 == IntKind.i64.wrap (h5 - 1) then bif decide (h6 < h8.getD h10.toNat 0) then out (.ret ((), ((0, (0, (21, ()))), ()))) else bif decide (0 ≤ IntKind.i64.wrap (7 * h10)) then bif decide (128 ≤ h8.getD h10.toNat 0) then next (h4) (h5) (h6) (spOr IntKind.u64 h7 (spShl IntKind.u64 (IntKind.u64.wrap (spAnd IntKind.u8 (h8.getD h10.toNat 0) 127)) (IntKind.i64.wrap (7 * h10)))) (h8) (h9) (IntKind.i64.wrap (h10 + 1)) else bif h8.getD h10.toNat 0 == 0 then bif decide (0 < h10) then out (.ret ((), ((0, (0, (20, ()))), ()))) else out (.ret ((), ((spOr IntKind.u64 h7 (spShl IntKind.u64 (IntKind.u64.wrap (spAnd IntKind.u8 (h8.getD h10.toNat 0) 127)) (IntKind.i64.wrap (7 * h10))), (IntKind.i64.wrap (IntKind.i64.wrap (h4 + h10) + 1), (0, ()))), ()))) else out (.ret ((), ((spOr IntKind.u64 h7 (spShl IntKind.u64 (IntKind.u64.wrap (spAnd IntKind.u8 (h8.getD h10.toNat 0) 127)) (IntKind.i64.wrap (7 * h10))), (IntKind.i64.wrap (IntKind.i64.wrap (h4 + h10) + 1), (0, ()))), ()))) else none else bif decide (0 ≤ IntKind.i64.wrap (7 * h10)) then bif decide (128 ≤ h8.getD h10.toNat 0) then next (h4) (h5) (h6) (spOr IntKind.u64 h7 (spShl IntKind.u64 (IntKind.u64.wrap (spAnd IntKind.u8 (h8.getD h10.toNat 0) 127)) (IntKind.i64.wrap (7 * h10)))) (h8) (h9) (IntKind.i64.wrap (h10 + 1)) else bif h8.getD h10.toNat 0 == 0 then bif decide (0 < h10) then out (.ret ((), ((0, (0, (20, ()))), ()))) else out (.ret ((), ((spOr IntKind.u64 h7 (spShl IntKind.u64 (IntKind.u64.wrap (spAnd IntKind.u8 (h8.getD h10.toNat 0) 127)) (IntKind.i64.wrap (7 * h10))), (IntKind.i64.wrap (IntKind.i64.wrap (h4 + h10) + 1), (0, ()))), ()))) else out (.ret ((), ((spOr IntKind.u64 h7 (spShl IntKind.u64 (IntKind.u64.wrap (spAnd IntKind.u8 (h8.getD h10.toNat 0) 127)) (IntKind.i64.wrap (7 * h10))), (IntKind.i64.wrap (IntKind.i64.wrap (h4 + h10) + 1), (0, ()))), ()))) else none else none else out (.pan (.ret ((), ((), ()))))
noncomputable def itpread_6 (n : Nat) (h4 : Int) (h5 : Int) (h6 : Int) (h7 : Int) (h8 : List Int) (h9 : Int) (h10 : Int) : Option (DenX lopread_6.xs) := lpN tt hdpread dr lppread 0 Go.Proofs.Try.f45 (topL Go.Proofs.Try.f45 0) n (lopread_6.st.mk' ((h4, (h5, (h6, (h7, (h8, (h9, (h10, ()))))))), ())) (decX lopread_6.xs)
theorem slpread_6 (n : Nat) (h4 : Int) (h5 : Int) (h6 : Int) (h7 : Int) (h8 : List Int) (h9 : Int) (h10 : Int) : itpread_6 (n + 1) h4 h5 h6 h7 h8 h9 h10 = steppread_6 h4 h5 h6 h7 h8 h9 h10 (itpread_6 n) some := by kernel_rfl
theorem looppread (p m : Nat) (t : Int) (l : List Int) (hf : spFit m t = true) (hp : (p : Int) + l.length ≤ 9223372036854775807) (hc : ∀ c ∈ l, 0 ≤ c ∧ c ≤ 255) : ∀ (k i : Nat), i < m → m < i + k → i ≤ l.length →
    itpread_6 k p m t (spVal (l.take i)) l l.length i =
      if (spRd m t (l.drop i) i).2 = 0 then some (.ret ((), ((spVal (l.take ((spRd m t (l.drop i) i).1 + 1).toNat) % 18446744073709551616, (p + (spRd m t (l.drop i) i).1 + 1, (0, ()))), ())))
      else if (spRd m t (l.drop i) i).2 = 1 then some (.pan (.ret ((), ((), ())))) else some (.ret ((), ((0, (0, ((spRd m t (l.drop i) i).2, ()))), ()))) := by
  have hm : (m = 10 ∧ t = 1) ∨ (m = 5 ∧ t = 15) := by
    simp only [spFit, Bool.or_eq_true, Bool.and_eq_true, decide_eq_true_eq] at hf
    omega
  intro k
  induction k with
  | zero => intro i h1 h2; omega
  | succ k ih =>
    intro i h1 h2 h3
    rw [slpread_6]
    unfold steppread_6
    by_cases hl : i < l.length
    · have hcc := hc l[i] (List.getElem_mem hl)
      have e3 : IntKind.i64.wrap ((m : Int) - 1) = (m : Int) - 1 := wrap_i64 (by omega) (by omega)
      have e4 : IntKind.i64.wrap ((i : Int) + 1) = ((i + 1 : Nat) : Int) := by rw [wrap_i64] <;> omega
      have e5 : IntKind.i64.wrap (7 * (i : Int)) = ((7 * i : Nat) : Int) := by rw [wrap_i64] <;> omega
      have e6 : IntKind.i64.wrap ((p : Int) + i) = ((p + i : Nat) : Int) := by rw [wrap_i64] <;> omega
      have e7 : IntKind.i64.wrap (((p + i : Nat) : Int) + 1) = (p : Int) + i + 1 := by rw [wrap_i64] <;> omega
      rw [bif_true (by simpa using hl), bif_true (by simpa using hl)]
      simp only [Int.toNat_natCast, getD_lt hl, e3, e4, e5, e6, e7]
      rw [and_127 hcc.1 hcc.2, wrap_u64 (n := l[i] % 128) (by omega) (by omega), List.drop_eq_getElem_cons hl]
      have hsn : l.take (i + 1) = l.take i ++ [l[i]] := List.take_succ_eq_append_getElem hl
      have hv := spVal_lt (l.take i)
      have hti : (l.take i).length = i := by simp; omega
      rw [hti] at hv
      have e8 : (128 : Int) ^ i = 2 ^ (7 * i) := by rw [Int.pow_mul]; rfl
      have hor : l[i] % 128 * 2 ^ (7 * i) < 18446744073709551616 → spOr .u64 (spVal (l.take i)) (spShl .u64 (l[i] % 128) ((7 * i : Nat) : Int)) = spVal (l.take (i + 1)) := by
        intro h
        rw [or_add hv.1 (by rw [← e8]; exact hv.2) (by omega) h (by omega), hsn, spVal_snoc, hti, e8, Int.mul_comm]
      generalize hg : spOr .u64 (spVal (l.take i)) (spShl .u64 (l[i] % 128) ((7 * i : Nat) : Int)) = v at hor ⊢
      have e9 : (2 : Int) ^ (7 * i) = ((2 ^ (7 * i) : Nat) : Int) := by rw [Int.natCast_pow]; rfl
      have hbd : (i ≤ 8 ∨ l[i] % 128 ≤ 1) → l[i] % 128 * 2 ^ (7 * i) < 18446744073709551616 := by
        intro h
        rw [e9]
        rcases h with h | h
        · have h8 : 2 ^ (7 * i) ≤ 2 ^ 56 := Nat.pow_le_pow_right (by decide) (by omega)
          have h9 : l[i] % 128 * ((2 ^ (7 * i) : Nat) : Int) ≤ 127 * ((2 ^ (7 * i) : Nat) : Int) := Int.mul_le_mul_of_nonneg_right (by omega) (by omega)
          generalize 2 ^ (7 * i) = w at h8 h9
          omega
        · have h8 : 2 ^ (7 * i) ≤ 2 ^ 63 := Nat.pow_le_pow_right (by decide) (by omega)
          have h9 : l[i] % 128 * ((2 ^ (7 * i) : Nat) : Int) ≤ 1 * ((2 ^ (7 * i) : Nat) : Int) := Int.mul_le_mul_of_nonneg_right h (by omega)
          generalize 2 ^ (7 * i) = w at h8 h9
          omega
      have hnext := fun h => ih (i + 1) h (by omega) (by omega)
      have ei : ((i : Int) + 1).toNat = i + 1 := by omega
      have hvr : inR .u64 v := by rw [← hg]; exact inR_wrap _ _
      have hvr := inR_u64.1 hvr
      clear hg
      by_cases hm1 : i + 1 = m
      · have h3' : ((i : Int) == (m : Int) - 1) = true := by simp; omega
        rw [bif_true h3']
        by_cases h4 : t < l[i]
        · simp [spRd, hm1, h4]
        · have hv2 := hor (hbd (by omega))
          have hmod : spVal (l.take (i + 1)) % 18446744073709551616 = spVal (l.take (i + 1)) := by rw [← hv2]; omega
          have hmod' := hmod
          rw [hm1] at hmod'
          have h5 : l[i] < 128 := by omega
          have h6 : ¬ 128 ≤ l[i] := by omega
          rw [bif_false (by simpa using h4), bif_true (by simp; omega), bif_false (by simpa using h6), hv2]
          by_cases h7 : l[i] = 0
          · have h4' : ¬ t < 0 := by omega
            by_cases h8 : 0 < i <;> simp [spRd, hm1, h4', h7, h8, cond_eq_ite, ei, hmod']
          · simp [spRd, hm1, h4, h5, h7, cond_eq_ite, ei, hmod']
      · have h3' : ((i : Int) == (m : Int) - 1) = false := by simp; omega
        have hv2 := hor (hbd (by omega))
        have hmod : spVal (l.take (i + 1)) % 18446744073709551616 = spVal (l.take (i + 1)) := by rw [← hv2]; omega
        rw [bif_false h3', bif_true (by simp; omega), hv2]
        by_cases h5 : l[i] < 128
        · have h6 : ¬ 128 ≤ l[i] := by omega
          rw [bif_false (by simpa using h6)]
          by_cases h7 : l[i] = 0
          · by_cases h8 : 0 < i <;> simp [spRd, hm1, h7, h8, cond_eq_ite, ei, hmod]
          · simp [spRd, hm1, h5, h7, cond_eq_ite, ei, hmod]
        · rw [bif_true (by simp; omega), hnext (by omega)]
          simp [spRd, hm1, h5]
    · rw [bif_false (by simpa using hl), List.drop_of_length_le (by omega)]
      simp [spRd]
noncomputable def bodypread (a0 : List Int) (a1 : Int) (a2 : Int) (a3 : Int) : Option iopread.Res := bif decide (a1 < 0) then some (Out.ret ((0, 0, 3, ()), ())) else bif decide ((↑a0.length : Int) < a1) then some (Out.ret ((0, 0, 3, ()), ())) else bif decide (0 ≤ a1) && (decide (a1 ≤ (↑a0.length : Int)) && decide ((↑a0.length : Int) ≤ (↑a0.length : Int))) then (Fpread_6 ((a1, (a2, (a3, (0, (List.drop a1.toNat (List.take (↑a0.length : Int).toNat a0), ((↑(List.drop a1.toNat (List.take (↑a0.length : Int).toNat a0)).length : Int), (0, ()))))))), ())).run fun y => match y with | .ret ((), ((x46, x47, x48, ()), ())) => (some (Out.ret ((x46, x47, x48, ()), ()))) | .pan (.ret ((), ((), ()))) => (some (Out.ret ((0, 0, 1, ()), ()))) else none
theorem runpread (a0 : List Int) (a1 : Int) (a2 : Int) (a3 : Int) : Io.run tt hdpread dr lppread iopread Go.Proofs.Try.f45 ((a0, a1, a2, a3, ()), ()) = bodypread a0 a1 a2 a3 := by kernel_rfl
theorem okpread : HcOk prog 45 (ioHd iopread Fpread) := by
  refine fn_sound (n := 400) hm (cs := cspread) .nil (lp := lppread) (fn := Go.Proofs.Try.f45) (by kernel_rfl) (by kernel_rfl) (by kernel_rfl) iopread
    (.step (h0 := loHd lopread_6 Fpread_6) (by kernel_rfl) (loop_sound (n := 400) hm (cs := cspread) .nil (lp := lppread) (fn := Go.Proofs.Try.f45) (.done (by kernel_rfl)) lopread_6 Fpread_6 ?_) (.done (by kernel_rfl))) Fpread ?_
  · rintro ⟨⟨(p : Int), (m : Int), (t : Int), (u : Int), (l : List Int), (n : Int), (i : Int), ⟨⟩⟩, ⟨⟩⟩ y hw hy
    obtain ⟨hg, hy⟩ := Tr.guard hy
    simp only [Bool.and_eq_true, decide_eq_true_eq] at hg
    obtain ⟨hf, rfl, rfl, rfl, h1, h2⟩ := hg
    have h1 : (0 : Int) ≤ p := h1
    have h2 : p + (l.length : Int) ≤ 9223372036854775807 := h2
    have hm0 : 5 ≤ m ∧ m ≤ 10 := by
      simp only [spFit, Bool.or_eq_true, Bool.and_eq_true, decide_eq_true_eq] at hf
      omega
    obtain ⟨p, rfl⟩ := toNat_of h1
    obtain ⟨m, rfl⟩ := toNat_of (show 0 ≤ m by omega)
    have hc : ∀ c ∈ l, 0 ≤ c ∧ c ≤ 255 := fun c hc => inR_u8.1 (hw.1.2.2.2.2.1.2 c hc)
    refine ⟨m + 1, (looppread p m t l hf h2 hc (m + 1) 0 (by omega) (by omega) (by omega)).trans ?_⟩
    rw [← hy]
    simp only [Tr.val_ite, Tr.val_ret, Int.toNat_natCast, decide_eq_true_eq, List.drop_zero]
  · rintro ⟨⟨(b : List Int), (p : Int), (m : Int), (t : Int), ⟨⟩⟩, ⟨⟩⟩ out hw ho
    obtain ⟨hf, ho⟩ := Tr.guard ho
    cases ho
    refine (runpread b p m t).trans ?_
    have hb : b.length ≤ maxLen := hw.1.1.1
    rw [maxLen_eq] at hb
    have hf : spFit m t = true := hf
    have hm0 : 5 ≤ m ∧ m ≤ 10 := by
      simp only [spFit, Bool.or_eq_true, Bool.and_eq_true, decide_eq_true_eq] at hf
      omega
    unfold bodypread
    show _ = some (Out.ret (((spGet m.toNat t b p).1, (spGet m.toNat t b p).2.1, (spGet m.toNat t b p).2.2, ()), ()))
    unfold spGet
    by_cases h1 : p < 0
    · rw [bif_true (by simpa using h1), if_pos (.inl h1)]
    · by_cases h2 : (b.length : Int) < p
      · rw [bif_false (by simpa using h1), bif_true (by simpa using h2), if_pos (.inr h2)]
      · rw [bif_false (by simpa using h1), bif_false (by simpa using h2), bif_true (by simp; omega), if_neg (by omega), show (b.length : Int).toNat = b.length by omega, List.take_length]
        have hlen : ((b.drop p.toNat).length : Int) = b.length - p := by simp; omega
        have hr := spRd_le m.toNat t (b.drop p.toNat) 0
        unfold Fpread_6
        generalize b.drop p.toNat = l at hlen hr ⊢
        generalize spRd m.toNat t l 0 = r at hr ⊢
        obtain ⟨r1, r2⟩ := r
        have h9 : (0 : Int) ≤ p := by omega
        have h8 : p + (l.length : Int) ≤ 9223372036854775807 := by omega
        simp only [Tr.run_ite, Tr.run_ret, Bool.and_eq_true, decide_eq_true_eq]
        rw [if_pos ⟨hf, trivial, trivial, trivial, h9, h8⟩]
        by_cases h3 : r2 = 0
        · simp [h3]
        · by_cases h4 : r2 = 1
          · simp [h4]
          · simp [h3, h4]

end
end Go.Proofs.Ytnppjkijhcampaa.Sym
