/- leatref02: Get, Get32. -/
import Derived.Test.YtnppjkijhcampaaCVval

namespace Go.Proofs.Ytnppjkijhcampaa.Sym
open Go
set_option linter.unusedSimpArgs false
set_option linter.unusedVariables false
noncomputable section

/-- A number read: the value folded, the place behind, the error. -/
noncomputable def spGet (most : Nat) (top : Int) (b : List Int) (p : Int) : Int × Int × Int :=
  if p < 0 ∨ (b.length : Int) < p then (0, 0, 3)
  else if (spRd most top (b.drop p.toNat) 0).2 = 0 then
    (spVal ((b.drop p.toNat).take ((spRd most top (b.drop p.toNat) 0).1 + 1).toNat) % 18446744073709551616, p + (spRd most top (b.drop p.toNat) 0).1 + 1, 0)
  else (0, 0, (spRd most top (b.drop p.toNat) 0).2)

theorem spRd_le (m : Nat) (t : Int) : ∀ (l : List Int) (i : Nat), (spRd m t l i).2 = 0 → (i : Int) ≤ (spRd m t l i).1 ∧ (spRd m t l i).1 < i + l.length
  | [], i, h => by simp [spRd] at h
  | c :: l, i, h => by
    simp only [spRd] at h ⊢
    split at h
    · cases h
    · rename_i h1
      rw [if_neg h1]
      split at h
      · rename_i h2
        rw [if_pos h2]
        split at h
        · cases h
        · rename_i h3
          rw [if_neg h3]
          simp only [List.length_cons]
          omega
      · rename_i h2
        rw [if_neg h2]
        have := spRd_le m t l (i + 1) h
        simp only [List.length_cons]
        omega

/-! ### leat/leatref02.Get -/
noncomputable abbrev iorGet : Io := ⟨[dL, dI], [], [], [d64, dI, dI], none⟩
noncomputable def FrGet (d : iorGet.In) : Tr iorGet.Res :=
  .ite (decide ((spGet 10 1 d.1.1 d.1.2.1).2.2 = 0)) (.ret (.ret ((spZag (spGet 10 1 d.1.1 d.1.2.1).1, (spGet 10 1 d.1.1 d.1.2.1).2.1, 0, ()), ())))
    (.ret (.ret ((0, 0, (spGet 10 1 d.1.1 d.1.2.1).2.2, ()), ())))
noncomputable abbrev csrGet : List (Nat × Hc) := [(53, ioHd iorget Frget), (55, ioHd iorvalue Frvalue), (54, ioHd iorZag FrZag)]
noncomputable def hdrGet : Hd := hdT csrGet
noncomputable def lprGet : Lp := lpT []

noncomputable def bodyrGet (a0 : List Int) (a1 : Int) : Option iorGet.Res := bif decide (a1 < 0) || decide ((↑a0.length : Int) < a1) then some (Out.ret ((0, 0, 3, ()), ())) else bif decide ((spRd (Int.toNat 10) 1 (List.drop a1.toNat a0) 0).snd = 0) then bif decide (0 ≤ a1) && (decide (a1 - 1 ≤ a1 + (spRd (Int.toNat 10) 1 (List.drop a1.toNat a0) 0).fst) && decide (a1 + (spRd (Int.toNat 10) 1 (List.drop a1.toNat a0) 0).fst < (↑a0.length : Int))) then some (Out.ret ((spZag (spVal (List.drop a1.toNat (List.take (Int.toNat (a1 + (spRd (Int.toNat 10) 1 (List.drop a1.toNat a0) 0).fst + 1)) a0)) % 18446744073709551616), IntKind.i64.wrap (a1 + (spRd (Int.toNat 10) 1 (List.drop a1.toNat a0) 0).fst + 1), 0, ()), ())) else none else bif (spRd (Int.toNat 10) 1 (List.drop a1.toNat a0) 0).snd != 0 then some (Out.ret ((0, 0, (spRd (Int.toNat 10) 1 (List.drop a1.toNat a0) 0).snd, ()), ())) else bif decide (0 ≤ a1) && (decide (a1 - 1 ≤ 0) && decide (0 < (↑a0.length : Int))) then some (Out.ret ((spZag (spVal (List.drop a1.toNat (List.take (Int.toNat (0 + 1)) a0)) % 18446744073709551616), IntKind.i64.wrap (0 + 1), 0, ()), ())) else none
theorem runrGet (a0 : List Int) (a1 : Int) : Io.run tt hdrGet dr lprGet iorGet Go.Proofs.Try.f56 ((a0, a1, ()), ()) = bodyrGet a0 a1 := by kernel_rfl
theorem okrGet : HcOk prog 56 (ioHd iorGet FrGet) := by
  refine fn_sound (n := 400) hm (cs := csrGet) (.cons okrget (.cons okrvalue (.cons okrZag .nil))) (lp := lprGet) (fn := Go.Proofs.Try.f56) (by kernel_rfl) (by kernel_rfl) (by kernel_rfl) iorGet (.done (by kernel_rfl)) FrGet ?_
  rintro ⟨⟨(b : List Int), (p : Int), ⟨⟩⟩, ⟨⟩⟩ out hw ho
  refine (runrGet b p).trans ?_
  rw [← ho]
  have hb : b.length ≤ maxLen := hw.1.1.1
  rw [maxLen_eq] at hb
  unfold bodyrGet FrGet
  simp only [Tr.val_ite, Tr.val_ret, spGet, decide_eq_true_eq, show Int.toNat 10 = 10 from rfl]
  by_cases h1 : p < 0 ∨ (b.length : Int) < p
  · rw [bif_true (by simpa using h1)]
    simp only [if_pos h1]
    rfl
  · rw [bif_false (by simpa using h1)]
    simp only [if_neg h1]
    by_cases h2 : (spRd 10 1 (b.drop p.toNat) 0).2 = 0
    · have h3 := spRd_le 10 1 (b.drop p.toNat) 0 h2
      rw [bif_true (by simpa using h2)]
      simp only [if_pos h2, if_true]
      simp only [List.length_drop] at h3
      generalize (spRd 10 1 (b.drop p.toNat) 0).1 = k at h3 ⊢
      have h4 : 0 ≤ p := by omega
      rw [bif_true (by simp; omega), wrap_i64 (n := p + k + 1) (by omega) (by omega), List.drop_take, show (p + k + 1).toNat - p.toNat = (k + 1).toNat by omega]
    · rw [bif_false (by simpa using h2), bif_true (by simpa using h2)]
      simp only [if_neg h2]

/-! ### leat/leatref02.Get32 -/
noncomputable abbrev iorGet32 : Io := ⟨[dL, dI], [], [], [d32, dI, dI], none⟩
noncomputable def FrGet32 (d : iorGet32.In) : Tr iorGet32.Res :=
  .ite (decide ((spGet 5 15 d.1.1 d.1.2.1).2.2 = 0)) (.ret (.ret ((IntKind.wrap .i32 (spZag (spGet 5 15 d.1.1 d.1.2.1).1), (spGet 5 15 d.1.1 d.1.2.1).2.1, 0, ()), ())))
    (.ret (.ret ((0, 0, (spGet 5 15 d.1.1 d.1.2.1).2.2, ()), ())))
noncomputable abbrev csrGet32 : List (Nat × Hc) := csrGet
noncomputable def hdrGet32 : Hd := hdT csrGet32
noncomputable def lprGet32 : Lp := lpT []

noncomputable def bodyrGet32 (a0 : List Int) (a1 : Int) : Option iorGet32.Res := bif decide (a1 < 0) || decide ((↑a0.length : Int) < a1) then some (Out.ret ((0, 0, 3, ()), ())) else bif decide ((spRd (Int.toNat 5) 15 (List.drop a1.toNat a0) 0).snd = 0) then bif decide (0 ≤ a1) && (decide (a1 - 1 ≤ a1 + (spRd (Int.toNat 5) 15 (List.drop a1.toNat a0) 0).fst) && decide (a1 + (spRd (Int.toNat 5) 15 (List.drop a1.toNat a0) 0).fst < (↑a0.length : Int))) then some (Out.ret ((IntKind.i32.wrap (spZag (spVal (List.drop a1.toNat (List.take (Int.toNat (a1 + (spRd (Int.toNat 5) 15 (List.drop a1.toNat a0) 0).fst + 1)) a0)) % 18446744073709551616)), IntKind.i64.wrap (a1 + (spRd (Int.toNat 5) 15 (List.drop a1.toNat a0) 0).fst + 1), 0, ()), ())) else none else bif (spRd (Int.toNat 5) 15 (List.drop a1.toNat a0) 0).snd != 0 then some (Out.ret ((0, 0, (spRd (Int.toNat 5) 15 (List.drop a1.toNat a0) 0).snd, ()), ())) else bif decide (0 ≤ a1) && (decide (a1 - 1 ≤ 0) && decide (0 < (↑a0.length : Int))) then some (Out.ret ((IntKind.i32.wrap (spZag (spVal (List.drop a1.toNat (List.take (Int.toNat (0 + 1)) a0)) % 18446744073709551616)), IntKind.i64.wrap (0 + 1), 0, ()), ())) else none
theorem runrGet32 (a0 : List Int) (a1 : Int) : Io.run tt hdrGet32 dr lprGet32 iorGet32 Go.Proofs.Try.f32 ((a0, a1, ()), ()) = bodyrGet32 a0 a1 := by kernel_rfl
theorem okrGet32 : HcOk prog 32 (ioHd iorGet32 FrGet32) := by
  refine fn_sound (n := 400) hm (cs := csrGet32) (.cons okrget (.cons okrvalue (.cons okrZag .nil))) (lp := lprGet32) (fn := Go.Proofs.Try.f32) (by kernel_rfl) (by kernel_rfl) (by kernel_rfl) iorGet32 (.done (by kernel_rfl)) FrGet32 ?_
  rintro ⟨⟨(b : List Int), (p : Int), ⟨⟩⟩, ⟨⟩⟩ out hw ho
  refine (runrGet32 b p).trans ?_
  rw [← ho]
  have hb : b.length ≤ maxLen := hw.1.1.1
  rw [maxLen_eq] at hb
  unfold bodyrGet32 FrGet32
  simp only [Tr.val_ite, Tr.val_ret, spGet, decide_eq_true_eq, show Int.toNat 5 = 5 from rfl]
  by_cases h1 : p < 0 ∨ (b.length : Int) < p
  · rw [bif_true (by simpa using h1)]
    simp only [if_pos h1]
    rfl
  · rw [bif_false (by simpa using h1)]
    simp only [if_neg h1]
    by_cases h2 : (spRd 5 15 (b.drop p.toNat) 0).2 = 0
    · have h3 := spRd_le 5 15 (b.drop p.toNat) 0 h2
      rw [bif_true (by simpa using h2)]
      simp only [if_pos h2, if_true]
      simp only [List.length_drop] at h3
      generalize (spRd 5 15 (b.drop p.toNat) 0).1 = k at h3 ⊢
      have h4 : 0 ≤ p := by omega
      rw [bif_true (by simp; omega), wrap_i64 (n := p + k + 1) (by omega) (by omega), List.drop_take, show (p + k + 1).toNat - p.toNat = (k + 1).toNat by omega]
    · rw [bif_false (by simpa using h2), bif_true (by simpa using h2)]
      simp only [if_neg h2]


end
end Go.Proofs.Ytnppjkijhcampaa.Sym
