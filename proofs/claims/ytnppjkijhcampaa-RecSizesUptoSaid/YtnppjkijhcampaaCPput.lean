/- vint.PutAll, vint.Put. -/
import Derived.Test.YtnppjkijhcampaaCPget

namespace Go.Proofs.Ytnppjkijhcampaa.Sym
open Go
set_option linter.unusedSimpArgs false
set_option linter.unusedVariables false
noncomputable section

theorem or_128n : ∀ c : Nat, c < 256 → spOr .u8 (c : Int) 128 = (c : Int) % 128 + 128 := by decide +kernel
theorem or_128 {u : Int} : spOr .u8 (IntKind.wrap .u8 u) 128 = u % 128 + 128 := by
  have e : IntKind.wrap .u8 u = ((u % 256).toNat : Int) := by simp [IntKind.wrap, IntKind.signed, IntKind.bits]; omega
  rw [e, or_128n _ (by omega)]
  omega

/-! ### leat/vint.PutAll -/
noncomputable abbrev dLs : Sh := .dat (.sl 2 (.int .i64)) false false
noncomputable abbrev iopPutAll : Io := ⟨[dLs], [], [], [dO], none⟩
noncomputable def spDigs (vs : List Int) : List Int := vs.flatMap fun v => spDig (spZig v)
noncomputable def FpPutAll (d : iopPutAll.In) : Tr iopPutAll.Res := .ite (decide (d.1.1.length ≤ 100000000)) (.ret (.ret ((spDigs d.1.1, ()), ()))) .no
noncomputable abbrev cspPutAll : List (Nat × Hc) := [(68, ioHd iopZig FpZig)]
noncomputable def hdpPutAll : Hd := hdT cspPutAll
noncomputable abbrev lopPutAll_7 : Lo := ⟨⟨[.any, .any, .any, .one (.onl 5 (Ty.int IntKind.u8) 7), .any, .any, .one (.hol (.int IntKind.u64)), .any, .one (.hol (.sl 2 (Ty.int IntKind.i64))), .one (.hol (.int IntKind.i64)), .one (.hol (.int IntKind.i64)), .any, .any, .any, .any, .any, .any, .any, .any, .any, .any, .any, .any, .any, .any, .any, .any, .any, .any, .any, .any, .any, .any], []⟩, [(.exit 2, ⟨[.any, .any, .any, .one (.onl 5 (Ty.int IntKind.u8) 7), .any, .any, .one (.hol (.int IntKind.u64)), .any, .one (.hol (.sl 2 (Ty.int IntKind.i64))), .one (.hol (.int IntKind.i64)), .one (.hol (.int IntKind.i64)), .any, .any, .any, .any, .any, .any, .any, .any, .any, .any, .any, .any, .any, .any, .any, .any, .any, .any, .any, .any, .any, .any], []⟩)]⟩
-- FpPutAll_7 : lopPutAll_7.st.den → Tr (DenX lopPutAll_7.xs) | ((h5, (h6, (h7, (h8, (h9, ()))))), ())
noncomputable abbrev lopPutAll_4 : Lo := ⟨⟨[.any, .any, .any, .one (.onl 5 (Ty.int IntKind.u8) 7), .any, .any, .any, .any, .one (.hol (.sl 2 (Ty.int IntKind.i64))), .one (.hol (.int IntKind.i64)), .one (.hol (.int IntKind.i64)), .any, .any, .any, .any, .any, .any, .any, .any, .any, .any, .any, .any, .any, .any, .any, .any, .any, .any, .any, .any, .any, .any], []⟩, [(.exit 0, ⟨[.any, .any, .any, .one (.onl 5 (Ty.int IntKind.u8) 7), .any, .any, .any, .any, .any, .any, .any, .any, .any, .any, .any, .any, .any, .any, .any, .any, .any, .any, .any, .any, .any, .any, .any, .any, .any, .any, .any, .any, .any], []⟩)]⟩
-- FpPutAll_4 : lopPutAll_4.st.den → Tr (DenX lopPutAll_4.xs) | ((h1, (h2, (h3, (h4, ())))), ())
noncomputable def FpPutAll_7 (d : lopPutAll_7.st.den) : Tr (DenX lopPutAll_7.xs) :=
  .ite (decide (d.1.1.length ≤ 4294967000)) (.ret (.ret ((), ((d.1.1 ++ spHi 10 d.1.2.1, (spLo 10 d.1.2.1, (d.1.2.2.1, (d.1.2.2.2.1, (d.1.2.2.2.2.1, ()))))), ())))) .no
noncomputable def FpPutAll_4 (d : lopPutAll_4.st.den) : Tr (DenX lopPutAll_4.xs) :=
  .ite (decide (d.1.1.length = 0) && (decide ((d.1.2.1.length : Int) = d.1.2.2.1) && (decide (d.1.2.2.2.1 = (0 : Int)) && decide (d.1.2.1.length ≤ 100000000)))) (.ret (.ret ((), ((spDigs d.1.2.1, ()), ())))) .no
noncomputable def lppPutAll : Lp := lpT [(4, loHd lopPutAll_4 FpPutAll_4), (7, loHd lopPutAll_7 FpPutAll_7)]
noncomputable def steppPutAll_7 {R : Type} (h5 : List Int) (h6 : Int) (h7 : List Int) (h8 : Int) (h9 : Int) (next : List Int → Int → List Int → Int → Int → Option R) (out : DenX lopPutAll_7.xs → Option R) : Option R := bif decide (128 ≤ h6) then bif decide (h5.length + [spOr IntKind.u8 (IntKind.u8.wrap h6) 128].length ≤ 4294967296) then next (h5 ++ [spOr IntKind.u8 (IntKind.u8.wrap h6) 128]) (spShr IntKind.u64 h6 7) (h7) (h8) (h9) else none else out (.ret ((), ((h5, (h6, (h7, (h8, (h9, ()))))), ())))
noncomputable def itpPutAll_7 (n : Nat) (h5 : List Int) (h6 : Int) (h7 : List Int) (h8 : Int) (h9 : Int) : Option (DenX lopPutAll_7.xs) := lpN tt hdpPutAll dr lppPutAll 0 Go.Proofs.Try.f60 (subL Go.Proofs.Try.f60 (topL Go.Proofs.Try.f60 0) 0) n (lopPutAll_7.st.mk' ((h5, (h6, (h7, (h8, (h9, ()))))), ())) (decX lopPutAll_7.xs)
theorem slpPutAll_7 (n : Nat) (h5 : List Int) (h6 : Int) (h7 : List Int) (h8 : Int) (h9 : Int) : itpPutAll_7 (n + 1) h5 h6 h7 h8 h9 = steppPutAll_7 h5 h6 h7 h8 h9 (itpPutAll_7 n) some := by kernel_rfl
noncomputable def steppPutAll_4 {R : Type} (h1 : List Int) (h2 : List Int) (h3 : Int) (h4 : Int) (next : List Int → List Int → Int → Int → Option R) (out : DenX lopPutAll_4.xs → Option R) : Option R := bif decide (h4 < h3) then bif decide (0 ≤ h4) && decide (h4 < (↑h2.length : Int)) then (FpPutAll_7 ((h1, (spZig (h2.getD h4.toNat 0), (h2, (h3, (h4, ()))))), ())).run fun y => match y with | .ret ((), ((x20, x21, x22, x23, x24, ()), ())) => (bif decide (x20.length + [IntKind.u8.wrap x21].length ≤ 4294967296) then next (x20 ++ [IntKind.u8.wrap x21]) (x22) (x23) (IntKind.i64.wrap (x24 + 1)) else none) else none else out (.ret ((), ((h1, ()), ())))
noncomputable def itpPutAll_4 (n : Nat) (h1 : List Int) (h2 : List Int) (h3 : Int) (h4 : Int) : Option (DenX lopPutAll_4.xs) := lpN tt hdpPutAll dr lppPutAll 0 Go.Proofs.Try.f60 (topL Go.Proofs.Try.f60 0) n (lopPutAll_4.st.mk' ((h1, (h2, (h3, (h4, ())))), ())) (decX lopPutAll_4.xs)
theorem slpPutAll_4 (n : Nat) (h1 : List Int) (h2 : List Int) (h3 : Int) (h4 : Int) : itpPutAll_4 (n + 1) h1 h2 h3 h4 = steppPutAll_4 h1 h2 h3 h4 (itpPutAll_4 n) some := by kernel_rfl
theorem looppPutAll_7 (l : List Int) (a i : Int) : ∀ (n k : Nat) (u : Int) (o : List Int), 0 ≤ u → u < 128 ^ n → u < 18446744073709551616 → n < k → o.length + n ≤ 4294967296 →
    itpPutAll_7 k o u l a i = some (.ret ((), ((o ++ spHi n u, (spLo n u, (l, (a, (i, ()))))), ()))) := by
  intro n
  induction n with
  | zero =>
    intro k u o h0 h1 h2 h3 h4
    obtain ⟨k, rfl⟩ : ∃ m, k = m + 1 := ⟨k - 1, by omega⟩
    rw [slpPutAll_7]
    unfold steppPutAll_7
    have : ¬ 128 ≤ u := by simp at h1; omega
    simp [this, spLo, spHi]
  | succ n ih =>
    intro k u o h0 h1 h2 h3 h4
    obtain ⟨k, rfl⟩ : ∃ m, k = m + 1 := ⟨k - 1, by omega⟩
    rw [slpPutAll_7]
    unfold steppPutAll_7
    have e1 : spShr .u64 u 7 = u / 128 := by
      show IntKind.wrap .u64 (u.fdiv (2 ^ 7)) = _
      rw [Int.fdiv_eq_ediv_of_nonneg _ (by decide), wrap_u64] <;> omega
    rw [or_128, e1]
    by_cases h : 127 < u
    · rw [ih k (u / 128) _ (by omega) (by rw [Int.pow_succ] at h1; exact Int.ediv_lt_of_lt_mul (by omega) h1) (by omega) (by omega) (by simp; omega)]
      have h5 : o.length + 1 ≤ 4294967296 := by omega
      have h6 : 128 ≤ u := by omega
      simp [h, h5, h6, spLo, spHi]
    · have h6 : ¬ 128 ≤ u := by omega
      simp [h, h6, spLo, spHi]
theorem spHi_len : ∀ (n : Nat) (u : Int), (spHi n u).length ≤ n := by
  intro n
  induction n with
  | zero => intro u; simp [spHi]
  | succ n ih => intro u; simp only [spHi]; split; have := ih (u / 128); simp; omega; simp
theorem spZig_range {v : Int} (hr : inR .i64 v) : 0 ≤ spZig v ∧ spZig v < 18446744073709551616 := by
  have hr := inR_i64.1 hr
  unfold spZig; split <;> omega
theorem spDigs_cons (v : Int) (l : List Int) : spDigs (v :: l) = spHi 10 (spZig v) ++ (spLo 10 (spZig v) :: spDigs l) := by simp [spDigs, spDig]
theorem looppPutAll_4 (vs : List Int) (hl : vs.length ≤ 100000000) (hr : ∀ v ∈ vs, inR .i64 v) : ∀ (k : Nat) (o : List Int) (i : Nat), i ≤ vs.length → vs.length < i + k → o.length ≤ 11 * i →
    itpPutAll_4 k o vs vs.length i = some (.ret ((), ((o ++ spDigs (vs.drop i), ()), ()))) := by
  intro k
  induction k with
  | zero => intro o i h1 h2; omega
  | succ k ih =>
    intro o i h1 h2 h3
    rw [slpPutAll_4]
    unfold steppPutAll_4
    by_cases hi : i < vs.length
    · have hz := spZig_range (hr vs[i] (List.getElem_mem hi))
      obtain ⟨l1, l2⟩ := spLo_le 10 (spZig vs[i]) hz.1 (by have := hz.2; omega)
      have h4 := spHi_len 10 (spZig vs[i])
      have h5 : o.length ≤ 4294967000 := by omega
      have h6 : o.length + (spHi 10 (spZig vs[i])).length + 1 ≤ 4294967296 := by omega
      have e4 : IntKind.i64.wrap ((i : Int) + 1) = ((i + 1 : Nat) : Int) := by rw [wrap_i64] <;> omega
      rw [bif_true (by simpa using hi), bif_true (by simpa using hi), List.drop_eq_getElem_cons hi]
      simp only [Int.toNat_natCast, getD_lt hi, FpPutAll_7, Tr.run_ite, Tr.run_ret, h5, decide_true, if_true, e4]
      rw [bif_true (by simp; omega), wrap_u8 (n := spLo 10 (spZig vs[i])) l1 (by omega), ih _ (i + 1) hi (by omega) (by simp; omega)]
      rw [spDigs_cons]
      simp
    · rw [List.drop_of_length_le (by omega)]
      simp [hi, spDigs]
noncomputable def bodypPutAll (a0 : List Int) : Option iopPutAll.Res := (FpPutAll_4 (([], (a0, ((↑a0.length : Int), (0, ())))), ())).run fun y => match y with | .ret ((), ((x30, ()), ())) => (some (Out.ret ((x30, ()), ())))
theorem runpPutAll (a0 : List Int) : Io.run tt hdpPutAll dr lppPutAll iopPutAll Go.Proofs.Try.f60 ((a0, ()), ()) = bodypPutAll a0 := by kernel_rfl
theorem okpPutAll : HcOk prog 60 (ioHd iopPutAll FpPutAll) := by
  refine fn_sound (n := 400) hm (cs := cspPutAll) (.cons okpZig .nil) (lp := lppPutAll) (fn := Go.Proofs.Try.f60) (by kernel_rfl) (by kernel_rfl) (by kernel_rfl) iopPutAll
    (.step (h0 := loHd lopPutAll_4 FpPutAll_4) (by kernel_rfl) (loop_sound (n := 400) hm (cs := cspPutAll) (.cons okpZig .nil) (lp := lppPutAll) (fn := Go.Proofs.Try.f60)
      (.step (h0 := loHd lopPutAll_7 FpPutAll_7) (by kernel_rfl) (loop_sound (n := 400) hm (cs := cspPutAll) (.cons okpZig .nil) (lp := lppPutAll) (fn := Go.Proofs.Try.f60) (.done (by kernel_rfl)) lopPutAll_7 FpPutAll_7 ?_) (.done (by kernel_rfl)))
      lopPutAll_4 FpPutAll_4 ?_) (.done (by kernel_rfl))) FpPutAll ?_
  · rintro ⟨⟨(o : List Int), (u : Int), (l : List Int), (a : Int), (i : Int), ⟨⟩⟩, ⟨⟩⟩ y hw hy
    obtain ⟨hg, hy⟩ := Tr.guard hy
    have hg : o.length ≤ 4294967000 := by simpa using hg
    have hr := inR_u64.1 (show inR .u64 u from hw.1.2.1)
    refine ⟨11, (looppPutAll_7 l a i 10 11 u o hr.1 (by omega) (by omega) (by omega) (by omega)).trans ?_⟩
    rw [← hy]; rfl
  · rintro ⟨⟨(o : List Int), (l : List Int), (a : Int), (i : Int), ⟨⟩⟩, ⟨⟩⟩ y hw hy
    obtain ⟨hg, hy⟩ := Tr.guard hy
    simp only [Bool.and_eq_true, decide_eq_true_eq] at hg
    obtain ⟨h1, rfl, rfl, h2⟩ := hg
    have h1 : o = [] := List.length_eq_zero_iff.1 h1
    subst h1
    have h2 : l.length ≤ 100000000 := h2
    refine ⟨l.length + 1, (looppPutAll_4 l h2 (fun v hv => hw.1.2.1.2 v hv) (l.length + 1) [] 0 (by omega) (by omega) (by simp)).trans ?_⟩
    rw [← hy]; rfl
  · rintro ⟨⟨(l : List Int), ⟨⟩⟩, ⟨⟩⟩ out hw ho
    obtain ⟨hg, ho⟩ := Tr.guard ho
    cases ho
    refine (runpPutAll l).trans ?_
    have hg : l.length ≤ 100000000 := by simpa using hg
    unfold bodypPutAll FpPutAll_4
    simp [Tr.run_ite, Tr.run_ret, hg]

/-! ### leat/vint.Put -/
noncomputable abbrev iopPut : Io := ⟨[d64], [], [], [dO], none⟩
noncomputable def FpPut (d : iopPut.In) : Tr iopPut.Res := .ret (.ret ((spDig (spZig d.1.1), ()), ()))
noncomputable abbrev cspPut : List (Nat × Hc) := [(60, ioHd iopPutAll FpPutAll)]
noncomputable def hdpPut : Hd := hdT cspPut
noncomputable def lppPut : Lp := lpT []

noncomputable def bodypPut (a0 : Int) : Option iopPut.Res := some (Out.ret ((spDigs [a0], ()), ()))
theorem runpPut (a0 : Int) : Io.run tt hdpPut dr lppPut iopPut Go.Proofs.Try.f37 ((a0, ()), ()) = bodypPut a0 := by kernel_rfl
theorem okpPut : HcOk prog 37 (ioHd iopPut FpPut) := by
  refine fn_sound (n := 400) hm (cs := cspPut) (.cons okpPutAll .nil) (lp := lppPut) (fn := Go.Proofs.Try.f37) (by kernel_rfl) (by kernel_rfl) (by kernel_rfl) iopPut (.done (by kernel_rfl)) FpPut ?_
  rintro ⟨⟨(v : Int), ⟨⟩⟩, ⟨⟩⟩ out hw ho
  cases ho
  refine (runpPut v).trans ?_
  unfold bodypPut
  simp [spDigs]

end
end Go.Proofs.Ytnppjkijhcampaa.Sym
