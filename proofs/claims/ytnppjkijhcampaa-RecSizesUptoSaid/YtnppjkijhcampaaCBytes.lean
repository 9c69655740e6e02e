/- leatref01: Copy, Cat, Piece, Wide, Intact. -/
import Derived.Test.YtnppjkijhcampaaCSame

namespace Go.Proofs.Ytnppjkijhcampaa.Sym
open Go
set_option linter.unusedSimpArgs false
set_option linter.unusedVariables false
noncomputable section

/-- A loop that appends the bytes one by one. -/
theorem append_loop {R : Type} (it : Nat → List Int → List Int → Int → Option R) (out : List Int → Option R)
    (h : ∀ n b o i, it (n + 1) b o i = bif decide (i < (b.length : Int)) then bif decide (0 ≤ i) && decide (i < (b.length : Int)) then bif decide (o.length + [b.getD i.toNat 0].length ≤ 4294967296) then it n b (o ++ [b.getD i.toNat 0]) (IntKind.i64.wrap (i + 1)) else none else none else out o)
    (b : List Int) (hb : b.length ≤ maxLen) : ∀ (k : Nat) (o : List Int) (i : Nat), i ≤ b.length → b.length < i + k → o.length + (b.length - i) ≤ 4294967296 → it k b o i = out (o ++ b.drop i) := by
  intro k
  induction k with
  | zero => intro o i h1 h2; omega
  | succ k ih =>
    intro o i h1 h2 h3
    rw [h]
    by_cases hi : i < b.length
    · rw [wrap_succ hi hb, ih _ (i + 1) hi (by omega) (by simp; omega), List.drop_eq_getElem_cons hi]
      simp only [Int.toNat_natCast, getD_lt hi]
      have h4 : o.length + 1 ≤ 4294967296 := by omega
      simp [hi, h4]
    · rw [List.drop_of_length_le (by omega)]
      simp [hi]

/-! ### leat/leatref01.Copy -/
noncomputable abbrev ioCopy : Io := ⟨[dL], [], [], [dO], none⟩
noncomputable def FCopy (d : ioCopy.In) : Tr ioCopy.Res := .ite (decide (d.1.1.length ≤ 4294967296)) (.ret (.ret ((d.1.1, ()), ()))) .no
noncomputable abbrev csCopy : List (Nat × Hc) := []
noncomputable def hdCopy : Hd := hdT csCopy
noncomputable abbrev loCopy_4 : Lo := ⟨⟨[.one (.hol (.sl 5 (Ty.int IntKind.u8))), .any, .any, .one (.onl 5 (Ty.int IntKind.u8) 7), .one (.hol (.int IntKind.i64)), .any, .any, .any, .any, .any, .any, .any, .any, .any, .any, .any, .any, .any, .any, .any], []⟩, [(.exit 0, ⟨[.any, .any, .any, .one (.onl 5 (Ty.int IntKind.u8) 7), .any, .any, .any, .any, .any, .any, .any, .any, .any, .any, .any, .any, .any, .any, .any, .any], []⟩)]⟩
-- FCopy_4 : loCopy_4.st.den → Tr (DenX loCopy_4.xs) | ((h1, (h2, (h3, ()))), ())
noncomputable def FCopy_4 (d : loCopy_4.st.den) : Tr (DenX loCopy_4.xs) :=
  .ite (decide (d.1.2.2.1 = 0) && decide (d.1.2.1.length + d.1.1.length ≤ 4294967296)) (.ret (.ret ((), ((d.1.2.1 ++ d.1.1, ()), ())))) .no
noncomputable def lpCopy : Lp := lpT [(4, loHd loCopy_4 FCopy_4)]
noncomputable def stepCopy_4 {R : Type} (h1 : List Int) (h2 : List Int) (h3 : Int) (next : List Int → List Int → Int → Option R) (out : DenX loCopy_4.xs → Option R) : Option R := bif decide (h3 < (↑h1.length : Int)) then bif decide (0 ≤ h3) && decide (h3 < (↑h1.length : Int)) then bif decide (h2.length + [h1.getD h3.toNat 0].length ≤ 4294967296) then next (h1) (h2 ++ [h1.getD h3.toNat 0]) (IntKind.i64.wrap (h3 + 1)) else none else none else out (.ret ((), ((h2, ()), ())))
noncomputable def itCopy_4 (n : Nat) (h1 : List Int) (h2 : List Int) (h3 : Int) : Option (DenX loCopy_4.xs) := lpN tt hdCopy dr lpCopy 0 Go.Proofs.Try.f23 (topL Go.Proofs.Try.f23 0) n (loCopy_4.st.mk' ((h1, (h2, (h3, ()))), ())) (decX loCopy_4.xs)
theorem slCopy_4 (n : Nat) (h1 : List Int) (h2 : List Int) (h3 : Int) : itCopy_4 (n + 1) h1 h2 h3 = stepCopy_4 h1 h2 h3 (itCopy_4 n) some := by kernel_rfl
noncomputable def bodyCopy (a0 : List Int) : Option ioCopy.Res := (FCopy_4 ((a0, ([], (0, ()))), ())).run fun y => match y with | .ret ((), ((x8, ()), ())) => (some (Out.ret ((x8, ()), ())))
theorem runCopy (a0 : List Int) : Io.run tt hdCopy dr lpCopy ioCopy Go.Proofs.Try.f23 ((a0, ()), ()) = bodyCopy a0 := by kernel_rfl
theorem okCopy : HcOk prog 23 (ioHd ioCopy FCopy) := by
  refine fn_sound (n := 400) hm (cs := csCopy) HcsOk.nil (lp := lpCopy) (fn := Go.Proofs.Try.f23) (by kernel_rfl) (by kernel_rfl) (by kernel_rfl) ioCopy
    (.step (h0 := loHd loCopy_4 FCopy_4) (by kernel_rfl) (loop_sound (n := 400) hm (cs := csCopy) HcsOk.nil (lp := lpCopy) (fn := Go.Proofs.Try.f23) (.done (by kernel_rfl)) loCopy_4 FCopy_4 ?_) (.done (by kernel_rfl))) FCopy ?_
  · rintro ⟨⟨b, o, i, ⟨⟩⟩, ⟨⟩⟩ y hw hy
    obtain ⟨hg, hy⟩ := Tr.guard hy
    simp only [Bool.and_eq_true, decide_eq_true_eq] at hg
    obtain ⟨rfl, hl⟩ := hg
    refine ⟨b.length + 1, (append_loop (fun k b o i => itCopy_4 k b o i) (fun o => some (.ret ((), ((o, ()), ())))) (fun n b o i => slCopy_4 n b o i) b hw.1.1.1 _ o 0 (by omega) (by omega) (by omega)).trans ?_⟩
    rw [← hy]; rfl
  · rintro ⟨⟨b, ⟨⟩⟩, ⟨⟩⟩ out hw ho
    obtain ⟨hg, ho⟩ := Tr.guard ho
    cases ho
    refine (runCopy b).trans ?_
    simp only [decide_eq_true_eq] at hg
    unfold bodyCopy FCopy_4
    simp [Tr.run_ite, Tr.run_ret, hg]

/-! ### leat/leatref01.Cat -/
noncomputable abbrev ioCat : Io := ⟨[dL, dL], [], [], [dO], none⟩
noncomputable def FCat (d : ioCat.In) : Tr ioCat.Res := .ite (decide (d.1.1.length + d.1.2.1.length ≤ 4294967296)) (.ret (.ret ((d.1.1 ++ d.1.2.1, ()), ()))) .no
noncomputable abbrev csCat : List (Nat × Hc) := [(23, ioHd ioCopy FCopy)]
noncomputable def hdCat : Hd := hdT csCat
noncomputable abbrev loCat_4 : Lo := ⟨⟨[.any, .one (.hol (.sl 5 (Ty.int IntKind.u8))), .any, .any, .any, .one (.onl 5 (Ty.int IntKind.u8) 11), .one (.hol (.int IntKind.i64)), .any, .any, .any, .any, .any, .any, .any, .any, .any, .any, .any, .any, .any, .any, .any, .any], []⟩, [(.exit 0, ⟨[.any, .any, .any, .any, .any, .one (.onl 5 (Ty.int IntKind.u8) 11), .any, .any, .any, .any, .any, .any, .any, .any, .any, .any, .any, .any, .any, .any, .any, .any, .any], []⟩)]⟩
-- FCat_4 : loCat_4.st.den → Tr (DenX loCat_4.xs) | ((h2, (h3, (h4, ()))), ())
noncomputable def FCat_4 (d : loCat_4.st.den) : Tr (DenX loCat_4.xs) :=
  .ite (decide (d.1.2.2.1 = 0) && decide (d.1.2.1.length + d.1.1.length ≤ 4294967296)) (.ret (.ret ((), ((d.1.2.1 ++ d.1.1, ()), ())))) .no
noncomputable def lpCat : Lp := lpT [(4, loHd loCat_4 FCat_4)]
noncomputable def stepCat_4 {R : Type} (h2 : List Int) (h3 : List Int) (h4 : Int) (next : List Int → List Int → Int → Option R) (out : DenX loCat_4.xs → Option R) : Option R := bif decide (h4 < (↑h2.length : Int)) then bif decide (0 ≤ h4) && decide (h4 < (↑h2.length : Int)) then bif decide (h3.length + [h2.getD h4.toNat 0].length ≤ 4294967296) then next (h2) (h3 ++ [h2.getD h4.toNat 0]) (IntKind.i64.wrap (h4 + 1)) else none else none else out (.ret ((), ((h3, ()), ())))
noncomputable def itCat_4 (n : Nat) (h2 : List Int) (h3 : List Int) (h4 : Int) : Option (DenX loCat_4.xs) := lpN tt hdCat dr lpCat 0 Go.Proofs.Try.f18 (topL Go.Proofs.Try.f18 0) n (loCat_4.st.mk' ((h2, (h3, (h4, ()))), ())) (decX loCat_4.xs)
theorem slCat_4 (n : Nat) (h2 : List Int) (h3 : List Int) (h4 : Int) : itCat_4 (n + 1) h2 h3 h4 = stepCat_4 h2 h3 h4 (itCat_4 n) some := by kernel_rfl
noncomputable def bodyCat (a0 : List Int) (a1 : List Int) : Option ioCat.Res := bif decide (a0.length ≤ 4294967296) then (FCat_4 ((a1, (a0, (0, ()))), ())).run fun y => match y with | .ret ((), ((x9, ()), ())) => (some (Out.ret ((x9, ()), ()))) else none
theorem runCat (a0 : List Int) (a1 : List Int) : Io.run tt hdCat dr lpCat ioCat Go.Proofs.Try.f18 ((a0, a1, ()), ()) = bodyCat a0 a1 := by kernel_rfl
theorem okCat : HcOk prog 18 (ioHd ioCat FCat) := by
  refine fn_sound (n := 400) hm (cs := csCat) (.cons okCopy .nil) (lp := lpCat) (fn := Go.Proofs.Try.f18) (by kernel_rfl) (by kernel_rfl) (by kernel_rfl) ioCat
    (.step (h0 := loHd loCat_4 FCat_4) (by kernel_rfl) (loop_sound (n := 400) hm (cs := csCat) (.cons okCopy .nil) (lp := lpCat) (fn := Go.Proofs.Try.f18) (.done (by kernel_rfl)) loCat_4 FCat_4 ?_) (.done (by kernel_rfl))) FCat ?_
  · rintro ⟨⟨b, o, i, ⟨⟩⟩, ⟨⟩⟩ y hw hy
    obtain ⟨hg, hy⟩ := Tr.guard hy
    simp only [Bool.and_eq_true, decide_eq_true_eq] at hg
    obtain ⟨rfl, hl⟩ := hg
    refine ⟨b.length + 1, (append_loop (fun k b o i => itCat_4 k b o i) (fun o => some (.ret ((), ((o, ()), ())))) (fun n b o i => slCat_4 n b o i) b hw.1.1.1 _ o 0 (by omega) (by omega) (by omega)).trans ?_⟩
    rw [← hy]; rfl
  · rintro ⟨⟨a, b, ⟨⟩⟩, ⟨⟩⟩ out hw ho
    obtain ⟨hg, ho⟩ := Tr.guard ho
    cases ho
    refine (runCat a b).trans ?_
    simp only [decide_eq_true_eq] at hg
    have hg : a.length + b.length ≤ 4294967296 := hg
    have h1 : a.length ≤ 4294967296 := by omega
    unfold bodyCat FCat_4
    simp [Tr.run_ite, Tr.run_ret, hg, h1]

end
end Go.Proofs.Ytnppjkijhcampaa.Sym
