/- leatref04.Utf. -/
import Derived.Test.YtnppjkijhcampaaCUchar

namespace Go.Proofs.Ytnppjkijhcampaa.Sym
open Go
set_option linter.unusedSimpArgs false
set_option linter.unusedVariables false
noncomputable section

/-- The first place at which no character begins, and whether that is the end. -/
noncomputable def spUtfN (b : List Int) : Nat → Int → Int × Bool
  | 0, p => (p, true)
  | n + 1, p => if (b.length : Int) ≤ p then (p, true) else if spChar b p = 0 then (p, false) else spUtfN b n (p + spChar b p)
noncomputable def spUtf (b : List Int) : Int × Bool := spUtfN b (b.length + 1) 0

theorem spChar_le {b : List Int} {p : Int} (h0 : 0 ≤ p) (h : p < (b.length : Int)) : 0 ≤ spChar b p ∧ p + spChar b p ≤ b.length := by
  unfold spChar
  rw [if_neg (by omega)]
  split
  · omega
  split
  · omega
  rename_i h1
  have a1 : spIn b (p + 1) (spLoOf (b.getD p.toNat 0)) (spHiOf (b.getD p.toNat 0)) = true := by
    cases hx : spIn b (p + 1) (spLoOf (b.getD p.toNat 0)) (spHiOf (b.getD p.toNat 0)) with
    | true => rfl
    | false => exact absurd (.inr (.inr hx)) h1
  have h2 := spIn_lt a1
  split
  · omega
  split
  · omega
  rename_i h3
  have h4 := spIn_lt (show spIn b (p + 2) 128 191 = true by simpa using h3)
  split
  · omega
  split
  · omega
  rename_i h5
  have h6 := spIn_lt (show spIn b (p + 3) 128 191 = true by simpa using h5)
  omega

/-! ### leat/leatref04.Utf -/
noncomputable abbrev iorUtf : Io := ⟨[dL], [], [], [dI, dB], none⟩
noncomputable def FrUtf (d : iorUtf.In) : Tr iorUtf.Res := .ret (.ret (((spUtf d.1.1).1, (spUtf d.1.1).2, ()), ()))
noncomputable abbrev csrUtf : List (Nat × Hc) := [(62, ioHd iorChar FrChar)]
noncomputable def hdrUtf : Hd := hdT csrUtf
noncomputable abbrev lorUtf_3 : Lo := ⟨⟨[.one (.hol (.sl 5 (Ty.int IntKind.u8))), .any, .any, .any, .one (.hol (.int IntKind.i64)), .any, .any, .any, .any, .any, .any, .any, .any, .any, .any, .any, .any, .any, .any, .any], []⟩, [(.ret, ⟨[.any, .any, .one (.hol (.int IntKind.i64)), .one (.hol .bool), .any, .any, .any, .any, .any, .any, .any, .any, .any, .any, .any, .any, .any, .any, .any, .any], []⟩), (.exit 0, ⟨[.any, .any, .any, .any, .one (.hol (.int IntKind.i64)), .any, .any, .any, .any, .any, .any, .any, .any, .any, .any, .any, .any, .any, .any, .any], []⟩)]⟩
-- FrUtf_3 : lorUtf_3.st.den → Tr (DenX lorUtf_3.xs) | ((h1, (h2, ())), ())
noncomputable def FrUtf_3 (d : lorUtf_3.st.den) : Tr (DenX lorUtf_3.xs) :=
  .ite (decide (d.1.2.1 = (0 : Int))) (.ite (spUtf d.1.1).2 (.ret (.pan (.ret ((), (((spUtf d.1.1).1, ()), ()))))) (.ret (.ret ((), (((spUtf d.1.1).1, (false, ())), ()))))) .no
noncomputable def lprUtf : Lp := lpT [(3, loHd lorUtf_3 FrUtf_3)]
noncomputable def steprUtf_3 {R : Type} (h1 : List Int) (h2 : Int) (next : List Int → Int → Option R) (out : DenX lorUtf_3.xs → Option R) : Option R := bif decide (h2 < (↑h1.length : Int)) then bif spChar h1 h2 == 0 then out (.ret ((), ((h2, (false, ())), ()))) else next (h1) (IntKind.i64.wrap (h2 + spChar h1 h2)) else out (.pan (.ret ((), ((h2, ()), ()))))
noncomputable def itrUtf_3 (n : Nat) (h1 : List Int) (h2 : Int) : Option (DenX lorUtf_3.xs) := lpN tt hdrUtf dr lprUtf 0 Go.Proofs.Try.f41 (topL Go.Proofs.Try.f41 0) n (lorUtf_3.st.mk' ((h1, (h2, ())), ())) (decX lorUtf_3.xs)
theorem slrUtf_3 (n : Nat) (h1 : List Int) (h2 : Int) : itrUtf_3 (n + 1) h1 h2 = steprUtf_3 h1 h2 (itrUtf_3 n) some := by kernel_rfl
theorem looprUtf (b : List Int) (hb : (b.length : Int) ≤ 9223372036854775807) : ∀ (k : Nat) (p : Int), 0 ≤ p → p ≤ b.length → (b.length : Int) < p + k →
    itrUtf_3 k b p = if (spUtfN b k p).2 = true then some (.pan (.ret ((), (((spUtfN b k p).1, ()), ())))) else some (.ret ((), (((spUtfN b k p).1, (false, ())), ()))) := by
  intro k
  induction k with
  | zero => intro p h0 h1 h2; omega
  | succ k ih =>
    intro p h0 h1 h2
    rw [slrUtf_3]
    unfold steprUtf_3
    by_cases h3 : (b.length : Int) ≤ p
    · have h4 : ¬ p < (b.length : Int) := by omega
      have hS : spUtfN b (k + 1) p = (p, true) := by simp [spUtfN, h3]
      simp [hS, h4]
    · have h4 : p < (b.length : Int) := by omega
      obtain ⟨h5, h6⟩ := spChar_le h0 h4
      rw [bif_true (by simpa using h4)]
      by_cases h7 : spChar b p = 0
      · have hS : spUtfN b (k + 1) p = (p, false) := by simp [spUtfN, h3, h7]
        simp [hS, h7]
      · have hS : spUtfN b (k + 1) p = spUtfN b k (p + spChar b p) := by simp [spUtfN, h3, h7]
        simp only [hS]
        rw [bif_false (by simpa using h7), wrap_i64 (by omega) (by omega), ih _ (by omega) h6 (by omega)]
noncomputable def bodyrUtf (a0 : List Int) : Option iorUtf.Res := (FrUtf_3 ((a0, (0, ())), ())).run fun y => match y with | .ret ((), ((x8, x9, ()), ())) => (some (Out.ret ((x8, x9, ()), ()))) | .pan (.ret ((), ((x10, ()), ()))) => (some (Out.ret ((x10, true, ()), ())))
theorem runrUtf (a0 : List Int) : Io.run tt hdrUtf dr lprUtf iorUtf Go.Proofs.Try.f41 ((a0, ()), ()) = bodyrUtf a0 := by kernel_rfl
theorem okrUtf : HcOk prog 41 (ioHd iorUtf FrUtf) := by
  refine fn_sound (n := 400) hm (cs := csrUtf) (.cons okrChar .nil) (lp := lprUtf) (fn := Go.Proofs.Try.f41) (by kernel_rfl) (by kernel_rfl) (by kernel_rfl) iorUtf
    (.step (h0 := loHd lorUtf_3 FrUtf_3) (by kernel_rfl) (loop_sound (n := 400) hm (cs := csrUtf) (.cons okrChar .nil) (lp := lprUtf) (fn := Go.Proofs.Try.f41) (.done (by kernel_rfl)) lorUtf_3 FrUtf_3 ?_) (.done (by kernel_rfl))) FrUtf ?_
  · rintro ⟨⟨(b : List Int), (p : Int), ⟨⟩⟩, ⟨⟩⟩ y hw hy
    obtain ⟨hg, hy⟩ := Tr.guard hy
    have hg : p = 0 := by simpa using hg
    subst hg
    have hb : b.length ≤ maxLen := hw.1.1.1
    rw [maxLen_eq] at hb
    refine ⟨b.length + 1, (looprUtf b (by omega) (b.length + 1) 0 (by omega) (by omega) (by omega)).trans ?_⟩
    rw [← hy]
    simp only [Tr.val_ite, Tr.val_ret]
    rfl
  · rintro ⟨⟨(b : List Int), ⟨⟩⟩, ⟨⟩⟩ out hw ho
    cases ho
    refine (runrUtf b).trans ?_
    unfold bodyrUtf FrUtf_3
    show _ = some (Out.ret (((spUtf b).1, (spUtf b).2, ()), ()))
    simp only [Tr.run_ite, Tr.run_ret]
    generalize spUtf b = r
    obtain ⟨r1, r2⟩ := r
    cases r2 <;> simp

end
end Go.Proofs.Ytnppjkijhcampaa.Sym
