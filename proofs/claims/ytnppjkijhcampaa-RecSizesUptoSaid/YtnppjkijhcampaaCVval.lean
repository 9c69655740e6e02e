/- leatref02: values, Get, Get32. -/
import Derived.Test.YtnppjkijhcampaaCVget

namespace Go.Proofs.Ytnppjkijhcampaa.Sym
open Go
set_option linter.unusedSimpArgs false
set_option linter.unusedVariables false
noncomputable section

theorem wrap_u64_mod (n : Int) : IntKind.wrap .u64 n = n % 18446744073709551616 := by simp [IntKind.wrap, IntKind.signed, IntKind.bits]
theorem mod_step (M x y z : Int) : ((x % M) * y + z) % M = (x * y + z) % M := by
  have h := Int.emod_add_mul_ediv x M
  have e : x * y + z = ((x % M) * y + z) + M * (x / M * y) := by
    conv => lhs; rw [← h]
    rw [Int.add_mul, Int.mul_assoc]; omega
  rw [e, Int.add_mul_emod_self_left]
theorem spVal_snoc (c : Int) : ∀ l : List Int, spVal (l ++ [c]) = spVal l + 128 ^ l.length * (c % 128)
  | [] => by simp [spVal]
  | x :: l => by
    simp only [List.cons_append, spVal, spVal_snoc c l, List.length_cons, Int.pow_succ]
    rw [Int.mul_add, Int.mul_comm (128 ^ l.length) 128, Int.mul_assoc]
    omega
theorem slice_succ (b : List Int) (p m : Nat) (h : p + m < b.length) : (b.take (p + (m + 1))).drop p = (b.take (p + m)).drop p ++ [b[p + m]] := by
  rw [← Nat.add_assoc, List.take_succ_eq_append_getElem h, List.drop_append_of_le_length (by simp; omega)]

noncomputable abbrev d32 : Sh := .dat (.int .i32) false false

/-! ### leat/leatref02.value -/
noncomputable abbrev iorvalue : Io := ⟨[dL, dI, dI], [], [], [dV], none⟩
noncomputable def Frvalue (d : iorvalue.In) : Tr iorvalue.Res :=
  .ite (decide ((0 : Int) ≤ d.1.2.1) && (decide ((d.1.2.1 : Int) - 1 ≤ d.1.2.2.1) && decide ((d.1.2.2.1 : Int) < (d.1.1.length : Int))))
    (.ret (.ret ((spVal ((d.1.1.take (d.1.2.2.1 + 1).toNat).drop d.1.2.1.toNat) % 18446744073709551616, ()), ()))) .no
noncomputable abbrev csrvalue : List (Nat × Hc) := []
noncomputable def hdrvalue : Hd := hdT csrvalue
noncomputable abbrev lorvalue_4 : Lo := ⟨⟨[.one (.hol (.sl 5 (Ty.int IntKind.u8))), .one (.hol (.int IntKind.i64)), .any, .any, .any, .any, .any, .one (.hol (.int IntKind.u64)), .one (.hol (.int IntKind.i64)), .any, .any, .any, .any, .any, .any, .any, .any, .any, .any, .any, .any, .any, .any, .any, .any], []⟩, [(.exit 0, ⟨[.any, .any, .any, .any, .any, .any, .any, .one (.hol (.int IntKind.u64)), .any, .any, .any, .any, .any, .any, .any, .any, .any, .any, .any, .any, .any, .any, .any, .any, .any], []⟩)]⟩
-- Frvalue_4 : lorvalue_4.st.den → Tr (DenX lorvalue_4.xs) | ((h3, (h4, (h5, (h6, ())))), ())
noncomputable def Frvalue_4 (d : lorvalue_4.st.den) : Tr (DenX lorvalue_4.xs) :=
  .ite (decide ((0 : Int) ≤ d.1.2.1) && (decide ((d.1.2.1 : Int) - 1 ≤ d.1.2.2.2.1) && (decide ((d.1.2.2.2.1 : Int) < (d.1.1.length : Int)) && decide (d.1.2.2.1 = (0 : Int)))))
    (.ret (.ret ((), ((spVal ((d.1.1.take (d.1.2.2.2.1 + 1).toNat).drop d.1.2.1.toNat) % 18446744073709551616, ()), ())))) .no
noncomputable def lprvalue : Lp := lpT [(4, loHd lorvalue_4 Frvalue_4)]
noncomputable def steprvalue_4 {R : Type} (h3 : List Int) (h4 : Int) (h5 : Int) (h6 : Int) (next : List Int → Int → Int → Int → Option R) (out : DenX lorvalue_4.xs → Option R) : Option R := bif decide (h4 ≤ h6) then bif decide (0 ≤ h6) && decide (h6 < (↑h3.length : Int)) then next (h3) (h4) (IntKind.u64.wrap (IntKind.u64.wrap (h5 * 128) + IntKind.u64.wrap (IntKind.u8.wrap (Int.tmod (h3.getD h6.toNat 0) 128)))) (IntKind.i64.wrap (h6 - 1)) else none else out (.ret ((), ((h5, ()), ())))
noncomputable def itrvalue_4 (n : Nat) (h3 : List Int) (h4 : Int) (h5 : Int) (h6 : Int) : Option (DenX lorvalue_4.xs) := lpN tt hdrvalue dr lprvalue 0 Go.Proofs.Try.f55 (topL Go.Proofs.Try.f55 0) n (lorvalue_4.st.mk' ((h3, (h4, (h5, (h6, ())))), ())) (decX lorvalue_4.xs)
theorem slrvalue_4 (n : Nat) (h3 : List Int) (h4 : Int) (h5 : Int) (h6 : Int) : itrvalue_4 (n + 1) h3 h4 h5 h6 = steprvalue_4 h3 h4 h5 h6 (itrvalue_4 n) some := by kernel_rfl
theorem looprvalue (b : List Int) (p : Nat) (hb : b.length ≤ maxLen) (hc : ∀ c ∈ b, 0 ≤ c ∧ c ≤ 255) : ∀ (m k : Nat) (u : Int), p + m ≤ b.length → m < k →
    itrvalue_4 k b p (u % 18446744073709551616) ((p : Int) + m - 1) = some (.ret ((), (((u * 128 ^ m + spVal ((b.take (p + m)).drop p)) % 18446744073709551616, ()), ()))) := by
  rw [maxLen_eq] at hb
  intro m
  induction m with
  | zero =>
    intro k u h1 h2
    obtain ⟨k, rfl⟩ : ∃ m, k = m + 1 := ⟨k - 1, by omega⟩
    rw [slrvalue_4]
    unfold steprvalue_4
    rw [bif_false (by simp; omega), List.drop_of_length_le (by simp; omega)]
    simp [spVal]
  | succ m ih =>
    intro k u h1 h2
    obtain ⟨k, rfl⟩ : ∃ m, k = m + 1 := ⟨k - 1, by omega⟩
    rw [slrvalue_4]
    unfold steprvalue_4
    have hlt : p + m < b.length := by omega
    have e0 : (p : Int) + ((m + 1 : Nat) : Int) - 1 = ((p + m : Nat) : Int) := by omega
    have hbc := hc b[p + m] (List.getElem_mem hlt)
    rw [e0, bif_true (by simp; omega), bif_true (by simp; omega)]
    simp only [Int.toNat_natCast, getD_lt hlt]
    have e1 : Int.tmod b[p + m] 128 = b[p + m] % 128 := Int.tmod_eq_emod_of_nonneg hbc.1
    have e2 : IntKind.i64.wrap (((p + m : Nat) : Int) - 1) = (p : Int) + m - 1 := by rw [wrap_i64] <;> omega
    rw [e1, e2, wrap_u8 (n := b[p + m] % 128) (by omega) (by omega), wrap_u64 (n := b[p + m] % 128) (by omega) (by omega), wrap_u64_mod, wrap_u64_mod]
    have e3 : (u % 18446744073709551616 * 128 % 18446744073709551616 + b[p + m] % 128) % 18446744073709551616 = (u * 128 + b[p + m] % 128) % 18446744073709551616 := by omega
    rw [e3, ih k (u * 128 + b[p + m] % 128) (by omega) (by omega), slice_succ b p m hlt, spVal_snoc]
    have e4 : ((b.take (p + m)).drop p).length = m := by simp; omega
    rw [e4, Int.pow_succ, Int.add_mul, Int.mul_assoc, Int.mul_comm 128 (128 ^ m), Int.mul_comm (b[p + m] % 128) (128 ^ m), Int.add_assoc, Int.add_comm (128 ^ m * (b[p + m] % 128))]
noncomputable def bodyrvalue (a0 : List Int) (a1 : Int) (a2 : Int) : Option iorvalue.Res := (Frvalue_4 ((a0, (a1, (0, (a2, ())))), ())).run fun y => match y with | .ret ((), ((x12, ()), ())) => (some (Out.ret ((x12, ()), ())))
theorem runrvalue (a0 : List Int) (a1 : Int) (a2 : Int) : Io.run tt hdrvalue dr lprvalue iorvalue Go.Proofs.Try.f55 ((a0, a1, a2, ()), ()) = bodyrvalue a0 a1 a2 := by kernel_rfl
theorem okrvalue : HcOk prog 55 (ioHd iorvalue Frvalue) := by
  refine fn_sound (n := 400) hm (cs := csrvalue) .nil (lp := lprvalue) (fn := Go.Proofs.Try.f55) (by kernel_rfl) (by kernel_rfl) (by kernel_rfl) iorvalue
    (.step (h0 := loHd lorvalue_4 Frvalue_4) (by kernel_rfl) (loop_sound (n := 400) hm (cs := csrvalue) .nil (lp := lprvalue) (fn := Go.Proofs.Try.f55) (.done (by kernel_rfl)) lorvalue_4 Frvalue_4 ?_) (.done (by kernel_rfl))) Frvalue ?_
  · rintro ⟨⟨(b : List Int), (p : Int), (u : Int), (i : Int), ⟨⟩⟩, ⟨⟩⟩ y hw hy
    obtain ⟨hg, hy⟩ := Tr.guard hy
    simp only [Bool.and_eq_true, decide_eq_true_eq] at hg
    obtain ⟨h1, h2, h3, rfl⟩ := hg
    have h1 : (0 : Int) ≤ p := h1
    have h2 : p - 1 ≤ i := h2
    have h3 : i < (b.length : Int) := h3
    obtain ⟨p, rfl⟩ := toNat_of h1
    obtain ⟨m, rfl⟩ : ∃ m : Nat, i = p + m - 1 := ⟨(i + 1 - p).toNat, by omega⟩
    have hc : ∀ c ∈ b, 0 ≤ c ∧ c ≤ 255 := fun c hc => inR_u8.1 (hw.1.1.2 c hc)
    refine ⟨m + 1, (looprvalue b p hw.1.1.1 hc m (m + 1) 0 (by omega) (by omega)).trans ?_⟩
    rw [← hy]
    have e : ((p : Int) + m - 1 + 1).toNat = p + m := by omega
    simp only [Tr.val_ret, e, Int.toNat_natCast, Int.zero_mul, Int.zero_add]
  · rintro ⟨⟨(b : List Int), (p : Int), (i : Int), ⟨⟩⟩, ⟨⟩⟩ out hw ho
    obtain ⟨hg, ho⟩ := Tr.guard ho
    cases ho
    refine (runrvalue b p i).trans ?_
    simp only [Bool.and_eq_true, decide_eq_true_eq] at hg
    unfold bodyrvalue Frvalue_4
    simp only [Tr.run_ite, Tr.run_ret, Bool.and_eq_true, decide_eq_true_eq]
    rw [if_pos ⟨hg.1, hg.2.1, hg.2.2, trivial⟩]

end
end Go.Proofs.Ytnppjkijhcampaa.Sym
