/- leatref02: numbers in digits of 128. -/
import Derived.Test.YtnppjkijhcampaaCWide

namespace Go.Proofs.Ytnppjkijhcampaa.Sym
open Go
set_option linter.unusedSimpArgs false
set_option linter.unusedVariables false
noncomputable section

/-- Folded and unfolded. -/
noncomputable def spZig (v : Int) : Int := if 0 ≤ v then 2 * v else -2 * v - 1
noncomputable def spZag (u : Int) : Int := if u % 2 = 0 then u / 2 else -(u / 2) - 1
theorem wrap_u64 {n : Int} (h0 : 0 ≤ n) (h : n < 18446744073709551616) : IntKind.wrap .u64 n = n := by
  apply wrap_id
  simp [inR, IntKind.min, IntKind.max, IntKind.signed, IntKind.bits]
  omega
theorem wrap_u8 {n : Int} (h0 : 0 ≤ n) (h : n < 256) : IntKind.wrap .u8 n = n := by
  apply wrap_id
  simp [inR, IntKind.min, IntKind.max, IntKind.signed, IntKind.bits]
  omega
theorem inR_i64 {n : Int} : inR .i64 n ↔ -9223372036854775808 ≤ n ∧ n ≤ 9223372036854775807 := by
  simp [inR, IntKind.min, IntKind.max, IntKind.signed, IntKind.bits]
theorem inR_u64 {n : Int} : inR .u64 n ↔ 0 ≤ n ∧ n ≤ 18446744073709551615 := by
  simp [inR, IntKind.min, IntKind.max, IntKind.signed, IntKind.bits]
theorem inR_u8 {n : Int} : inR .u8 n ↔ 0 ≤ n ∧ n ≤ 255 := by
  simp [inR, IntKind.min, IntKind.max, IntKind.signed, IntKind.bits]
noncomputable abbrev dV : Sh := .dat (.int .u64) false false
noncomputable abbrev d64 : Sh := .dat (.int .i64) false false

/-! ### leat/leatref02.Zig -/
noncomputable abbrev iorZig : Io := ⟨[d64], [], [], [dV], none⟩
noncomputable def FrZig (d : iorZig.In) : Tr iorZig.Res := .ret (.ret ((spZig d.1.1, ()), ()))
noncomputable abbrev csrZig : List (Nat × Hc) := []
noncomputable def hdrZig : Hd := hdT csrZig
noncomputable def lprZig : Lp := lpT []

noncomputable def bodyrZig (a0 : Int) : Option iorZig.Res := bif decide (0 ≤ a0) then some (Out.ret ((IntKind.u64.wrap (IntKind.u64.wrap a0 * 2), ()), ())) else some (Out.ret ((IntKind.u64.wrap (IntKind.u64.wrap (IntKind.u64.wrap (IntKind.i64.wrap (0 - IntKind.i64.wrap (a0 + 1))) * 2) + 1), ()), ()))
theorem runrZig (a0 : Int) : Io.run tt hdrZig dr lprZig iorZig Go.Proofs.Try.f64 ((a0, ()), ()) = bodyrZig a0 := by kernel_rfl
theorem okrZig : HcOk prog 64 (ioHd iorZig FrZig) := by
  refine fn_sound (n := 400) hm (cs := csrZig) HcsOk.nil (lp := lprZig) (fn := Go.Proofs.Try.f64) (by kernel_rfl) (by kernel_rfl) (by kernel_rfl) iorZig (.done (by kernel_rfl)) FrZig ?_
  rintro ⟨⟨(v : Int), ⟨⟩⟩, ⟨⟩⟩ out hw ho
  cases ho
  refine (runrZig v).trans ?_
  have hr := inR_i64.1 (show inR .i64 v from hw.1.1)
  unfold bodyrZig
  show _ = some (Out.ret ((spZig v, ()), ()))
  unfold spZig
  by_cases h : 0 ≤ v
  · rw [bif_true (by simpa using h), if_pos h, wrap_u64 (n := v) h (by omega), wrap_u64 (n := v * 2) (by omega) (by omega), Int.mul_comm]
  · rw [bif_false (by simpa using h), if_neg h, wrap_i64 (n := v + 1) (by omega) (by omega), wrap_i64 (n := 0 - (v + 1)) (by omega) (by omega), wrap_u64 (n := 0 - (v + 1)) (by omega) (by omega),
      wrap_u64 (n := (0 - (v + 1)) * 2) (by omega) (by omega), wrap_u64 (n := (0 - (v + 1)) * 2 + 1) (by omega) (by omega), show (0 - (v + 1)) * 2 + 1 = -2 * v - 1 by omega]

/-! ### leat/leatref02.Zag -/
noncomputable abbrev iorZag : Io := ⟨[dV], [], [], [d64], none⟩
noncomputable def FrZag (d : iorZag.In) : Tr iorZag.Res := .ret (.ret ((spZag d.1.1, ()), ()))
noncomputable abbrev csrZag : List (Nat × Hc) := []
noncomputable def hdrZag : Hd := hdT csrZag
noncomputable def lprZag : Lp := lpT []

noncomputable def bodyrZag (a0 : Int) : Option iorZag.Res := bif IntKind.u64.wrap (a0.tmod 2) == 0 then some (Out.ret ((IntKind.i64.wrap (IntKind.u64.wrap (a0.tdiv 2)), ()), ())) else some (Out.ret ((IntKind.i64.wrap (IntKind.i64.wrap (0 - IntKind.i64.wrap (IntKind.u64.wrap (a0.tdiv 2))) - 1), ()), ()))
theorem runrZag (a0 : Int) : Io.run tt hdrZag dr lprZag iorZag Go.Proofs.Try.f54 ((a0, ()), ()) = bodyrZag a0 := by kernel_rfl
theorem okrZag : HcOk prog 54 (ioHd iorZag FrZag) := by
  refine fn_sound (n := 400) hm (cs := csrZag) HcsOk.nil (lp := lprZag) (fn := Go.Proofs.Try.f54) (by kernel_rfl) (by kernel_rfl) (by kernel_rfl) iorZag (.done (by kernel_rfl)) FrZag ?_
  rintro ⟨⟨(u : Int), ⟨⟩⟩, ⟨⟩⟩ out hw ho
  cases ho
  refine (runrZag u).trans ?_
  have hr := inR_u64.1 (show inR .u64 u from hw.1.1)
  unfold bodyrZag
  show _ = some (Out.ret ((spZag u, ()), ()))
  unfold spZag
  have e1 : u.tmod 2 = u % 2 := Int.tmod_eq_emod_of_nonneg hr.1
  have e2 : u.tdiv 2 = u / 2 := Int.tdiv_eq_ediv_of_nonneg hr.1
  rw [e1, e2, wrap_u64 (n := u % 2) (by omega) (by omega), wrap_u64 (n := u / 2) (by omega) (by omega), wrap_i64 (n := u / 2) (by omega) (by omega), wrap_i64 (n := 0 - u / 2) (by omega) (by omega), wrap_i64 (n := 0 - u / 2 - 1) (by omega) (by omega)]
  by_cases h : u % 2 = 0
  · simp [h]
  · simp [h, cond_eq_ite]

/-! ### leat/leatref02.Put -/
noncomputable abbrev iorPut : Io := ⟨[d64], [], [], [dO], none⟩
noncomputable def spHi : Nat → Int → List Int
  | 0, _ => []
  | n + 1, u => if 127 < u then (u % 128 + 128) :: spHi n (u / 128) else []
noncomputable def spLo : Nat → Int → Int
  | 0, u => u
  | n + 1, u => if 127 < u then spLo n (u / 128) else u
/-- The digits, the lowest first. -/
noncomputable def spDig (u : Int) : List Int := spHi 10 u ++ [spLo 10 u]
theorem spLo_le : ∀ (n : Nat) (u : Int), 0 ≤ u → u < 128 ^ n → 0 ≤ spLo n u ∧ spLo n u ≤ 127
  | 0, u, h0, h => by simp only [spLo]; simp at h; omega
  | n + 1, u, h0, h => by
    simp only [spLo]
    split
    · refine spLo_le n (u / 128) (by omega) ?_
      rw [Int.pow_succ] at h
      exact Int.ediv_lt_of_lt_mul (by omega) h
    · omega
noncomputable def FrPut (d : iorPut.In) : Tr iorPut.Res := .ret (.ret ((spDig (spZig d.1.1), ()), ()))
noncomputable abbrev csrPut : List (Nat × Hc) := [(64, ioHd iorZig FrZig)]
noncomputable def hdrPut : Hd := hdT csrPut
noncomputable abbrev lorPut_4 : Lo := ⟨⟨[.any, .any, .any, .one (.hol (.int IntKind.u64)), .one (.onl 5 (Ty.int IntKind.u8) 9), .any, .any, .any, .any, .any, .any, .any, .any, .any, .any, .any, .any, .any, .any, .any, .any, .any, .any, .any, .any], []⟩, [(.exit 0, ⟨[.any, .any, .any, .one (.hol (.int IntKind.u64)), .one (.onl 5 (Ty.int IntKind.u8) 9), .any, .any, .any, .any, .any, .any, .any, .any, .any, .any, .any, .any, .any, .any, .any, .any, .any, .any, .any, .any], []⟩)]⟩
-- FrPut_4 : lorPut_4.st.den → Tr (DenX lorPut_4.xs) | ((h1, (h2, ())), ())
noncomputable def FrPut_4 (d : lorPut_4.st.den) : Tr (DenX lorPut_4.xs) :=
  .ite (decide (d.1.2.1.length = 0)) (.ret (.ret ((), ((spLo 10 d.1.1, (spHi 10 d.1.1, ())), ())))) .no
noncomputable def lprPut : Lp := lpT [(4, loHd lorPut_4 FrPut_4)]
noncomputable def steprPut_4 {R : Type} (h1 : Int) (h2 : List Int) (next : Int → List Int → Option R) (out : DenX lorPut_4.xs → Option R) : Option R := bif decide (127 < h1) then bif decide (h2.length + [IntKind.u8.wrap (IntKind.u64.wrap (IntKind.u64.wrap (h1.tmod 128) + 128))].length ≤ 4294967296) then next (IntKind.u64.wrap (h1.tdiv 128)) (h2 ++ [IntKind.u8.wrap (IntKind.u64.wrap (IntKind.u64.wrap (h1.tmod 128) + 128))]) else none else out (.ret ((), ((h1, (h2, ())), ())))
noncomputable def itrPut_4 (n : Nat) (h1 : Int) (h2 : List Int) : Option (DenX lorPut_4.xs) := lpN tt hdrPut dr lprPut 0 Go.Proofs.Try.f44 (topL Go.Proofs.Try.f44 0) n (lorPut_4.st.mk' ((h1, (h2, ())), ())) (decX lorPut_4.xs)
theorem slrPut_4 (n : Nat) (h1 : Int) (h2 : List Int) : itrPut_4 (n + 1) h1 h2 = steprPut_4 h1 h2 (itrPut_4 n) some := by kernel_rfl
theorem looprPut : ∀ (n k : Nat) (u : Int) (o : List Int), 0 ≤ u → u < 128 ^ n → u < 18446744073709551616 → n < k → o.length + n ≤ 4294967296 →
    itrPut_4 k u o = some (.ret ((), ((spLo n u, (o ++ spHi n u, ())), ()))) := by
  intro n
  induction n with
  | zero =>
    intro k u o h0 h1 h2 h3 h4
    obtain ⟨k, rfl⟩ : ∃ m, k = m + 1 := ⟨k - 1, by omega⟩
    rw [slrPut_4]
    unfold steprPut_4
    have : ¬ 127 < u := by simp at h1; omega
    simp [this, spLo, spHi]
  | succ n ih =>
    intro k u o h0 h1 h2 h3 h4
    obtain ⟨k, rfl⟩ : ∃ m, k = m + 1 := ⟨k - 1, by omega⟩
    rw [slrPut_4]
    unfold steprPut_4
    by_cases h : 127 < u
    · have e1 : u.tmod 128 = u % 128 := Int.tmod_eq_emod_of_nonneg h0
      have e2 : u.tdiv 128 = u / 128 := Int.tdiv_eq_ediv_of_nonneg h0
      rw [e1, e2, wrap_u64 (n := u % 128) (by omega) (by omega), wrap_u64 (n := u % 128 + 128) (by omega) (by omega), wrap_u8 (n := u % 128 + 128) (by omega) (by omega), wrap_u64 (n := u / 128) (by omega) (by omega)]
      rw [ih k (u / 128) _ (by omega) (by rw [Int.pow_succ] at h1; exact Int.ediv_lt_of_lt_mul (by omega) h1) (by omega) (by omega) (by simp; omega)]
      have h5 : o.length + 1 ≤ 4294967296 := by omega
      simp [h, h5, spLo, spHi]
    · simp [h, spLo, spHi]
noncomputable def bodyrPut (a0 : Int) : Option iorPut.Res := (FrPut_4 ((spZig a0, ([], ())), ())).run fun y => match y with | .ret ((), ((x7, x8, ()), ())) => (bif decide (x8.length + [IntKind.u8.wrap x7].length ≤ 4294967296) then some (Out.ret ((x8 ++ [IntKind.u8.wrap x7], ()), ())) else none)
theorem runrPut (a0 : Int) : Io.run tt hdrPut dr lprPut iorPut Go.Proofs.Try.f44 ((a0, ()), ()) = bodyrPut a0 := by kernel_rfl
theorem okrPut : HcOk prog 44 (ioHd iorPut FrPut) := by
  refine fn_sound (n := 400) hm (cs := csrPut) (.cons okrZig .nil) (lp := lprPut) (fn := Go.Proofs.Try.f44) (by kernel_rfl) (by kernel_rfl) (by kernel_rfl) iorPut
    (.step (h0 := loHd lorPut_4 FrPut_4) (by kernel_rfl) (loop_sound (n := 400) hm (cs := csrPut) (.cons okrZig .nil) (lp := lprPut) (fn := Go.Proofs.Try.f44) (.done (by kernel_rfl)) lorPut_4 FrPut_4 ?_) (.done (by kernel_rfl))) FrPut ?_
  · rintro ⟨⟨(u : Int), (o : List Int), ⟨⟩⟩, ⟨⟩⟩ y hw hy
    obtain ⟨hg, hy⟩ := Tr.guard hy
    have hg : o = [] := List.length_eq_zero_iff.1 (by simpa using hg)
    subst hg
    have hr := inR_u64.1 (show inR .u64 u from hw.1.1)
    refine ⟨11, (looprPut 10 11 u [] hr.1 (by omega) (by omega) (by omega) (by simp)).trans ?_⟩
    rw [← hy]; rfl
  · rintro ⟨⟨(v : Int), ⟨⟩⟩, ⟨⟩⟩ out hw ho
    cases ho
    refine (runrPut v).trans ?_
    have hr := inR_i64.1 (show inR .i64 v from hw.1.1)
    have hz : 0 ≤ spZig v ∧ spZig v < 18446744073709551616 := by unfold spZig; split <;> omega
    obtain ⟨h1, h2⟩ := spLo_le 10 (spZig v) hz.1 (by have := hz.2; omega)
    have h3 : ∀ (n : Nat) (u : Int), (spHi n u).length ≤ n := by
      intro n
      induction n with
      | zero => intro u; simp [spHi]
      | succ n ih => intro u; simp only [spHi]; split; have := ih (u / 128); simp; omega; simp
    have h4 := h3 10 (spZig v)
    have h5 : (spHi 10 (spZig v)).length ≤ 4294967295 := by omega
    unfold bodyrPut FrPut_4
    simp [Tr.run_ite, Tr.run_ret, wrap_u8 (n := spLo 10 (spZig v)) h1 (by omega), h5, spDig]

end
end Go.Proofs.Ytnppjkijhcampaa.Sym
