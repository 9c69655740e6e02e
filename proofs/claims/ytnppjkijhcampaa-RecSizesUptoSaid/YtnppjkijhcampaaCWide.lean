/- leatref01: Piece, Wide, Intact. -/
import Derived.Test.YtnppjkijhcampaaCBytes

namespace Go.Proofs.Ytnppjkijhcampaa.Sym
open Go
set_option linter.unusedSimpArgs false
set_option linter.unusedVariables false
noncomputable section

/-! ### leat/leatref01.Piece -/
noncomputable abbrev ioPiece : Io := ⟨[dL, dI, dI], [], [], [dO], none⟩
noncomputable def FPiece (d : ioPiece.In) : Tr ioPiece.Res := .ite (decide (d.1.1.length ≤ 4294967296)) (.ret (.ret ((((d.1.1.take d.1.2.2.1.toNat).drop d.1.2.1.toNat), ()), ()))) .no
noncomputable abbrev csPiece : List (Nat × Hc) := []
noncomputable def hdPiece : Hd := hdT csPiece
noncomputable abbrev loPiece_6 : Lo := ⟨⟨[.one (.hol (.sl 5 (Ty.int IntKind.u8))), .any, .one (.hol (.int IntKind.i64)), .any, .any, .any, .any, .one (.onl 5 (Ty.int IntKind.u8) 15), .one (.hol (.int IntKind.i64)), .any, .any, .any, .any, .any, .any, .any, .any, .any, .any, .any, .any, .any, .any, .any, .any, .any, .any, .any, .any, .any, .any, .any], []⟩, [(.exit 0, ⟨[.any, .any, .any, .any, .any, .any, .any, .one (.onl 5 (Ty.int IntKind.u8) 15), .any, .any, .any, .any, .any, .any, .any, .any, .any, .any, .any, .any, .any, .any, .any, .any, .any, .any, .any, .any, .any, .any, .any, .any], []⟩)]⟩
-- FPiece_6 : loPiece_6.st.den → Tr (DenX loPiece_6.xs) | ((h3, (h4, (h5, (h6, ())))), ())
noncomputable def FPiece_6 (d : loPiece_6.st.den) : Tr (DenX loPiece_6.xs) :=
  .ite (decide (0 ≤ d.1.2.2.2.1) && decide (d.1.2.2.1.length + d.1.1.length ≤ 4294967296)) (.ret (.ret ((), ((d.1.2.2.1 ++ (d.1.1.take d.1.2.1.toNat).drop d.1.2.2.2.1.toNat, ()), ())))) .no
noncomputable def lpPiece : Lp := lpT [(6, loHd loPiece_6 FPiece_6)]
noncomputable def stepPiece_6 {R : Type} (h3 : List Int) (h4 : Int) (h5 : List Int) (h6 : Int) (next : List Int → Int → List Int → Int → Option R) (out : DenX loPiece_6.xs → Option R) : Option R := bif decide (h6 < (↑h3.length : Int)) then bif decide (h6 < h4) then bif decide (0 ≤ h6) && decide (h6 < (↑h3.length : Int)) then bif decide (h5.length + [h3.getD h6.toNat 0].length ≤ 4294967296) then next (h3) (h4) (h5 ++ [h3.getD h6.toNat 0]) (IntKind.i64.wrap (h6 + 1)) else none else none else out (.ret ((), ((h5, ()), ()))) else out (.ret ((), ((h5, ()), ())))
noncomputable def itPiece_6 (n : Nat) (h3 : List Int) (h4 : Int) (h5 : List Int) (h6 : Int) : Option (DenX loPiece_6.xs) := lpN tt hdPiece dr lpPiece 0 Go.Proofs.Try.f19 (topL Go.Proofs.Try.f19 0) n (loPiece_6.st.mk' ((h3, (h4, (h5, (h6, ())))), ())) (decX loPiece_6.xs)
theorem slPiece_6 (n : Nat) (h3 : List Int) (h4 : Int) (h5 : List Int) (h6 : Int) : itPiece_6 (n + 1) h3 h4 h5 h6 = stepPiece_6 h3 h4 h5 h6 (itPiece_6 n) some := by kernel_rfl
theorem loopPiece (b : List Int) (hi : Int) (hb : b.length ≤ maxLen) : ∀ (k : Nat) (o : List Int) (i : Nat), b.length < i + k → o.length + (b.length - i) ≤ 4294967296 → 0 < k →
    itPiece_6 k b hi o i = some (.ret ((), ((o ++ (b.take hi.toNat).drop i, ()), ()))) := by
  intro k
  induction k with
  | zero => intro o i _ _ h; omega
  | succ k ih =>
    intro o i h1 h2 _
    rw [slPiece_6]
    unfold stepPiece_6
    by_cases hl : i < b.length
    · by_cases hh : (i : Int) < hi
      · rw [wrap_succ hl hb, ih _ (i + 1) (by omega) (by simp; omega) (by omega)]
        have hlt : i < (b.take hi.toNat).length := by simp; omega
        rw [List.drop_eq_getElem_cons hlt]
        simp only [Int.toNat_natCast, getD_lt hl, List.getElem_take]
        have h4 : o.length + 1 ≤ 4294967296 := by omega
        simp [hl, hh, h4]
      · rw [List.drop_of_length_le (by simp; omega)]
        simp [hl, hh]
    · rw [List.drop_of_length_le (by simp; omega)]
      simp [hl]
noncomputable def bodyPiece (a0 : List Int) (a1 : Int) (a2 : Int) : Option ioPiece.Res := bif decide (a1 < 0) then (FPiece_6 ((a0, (a2, ([], (0, ())))), ())).run fun y => match y with | .ret ((), ((x13, ()), ())) => (some (Out.ret ((x13, ()), ()))) else (FPiece_6 ((a0, (a2, ([], (a1, ())))), ())).run fun y => match y with | .ret ((), ((x18, ()), ())) => (some (Out.ret ((x18, ()), ())))
theorem runPiece (a0 : List Int) (a1 : Int) (a2 : Int) : Io.run tt hdPiece dr lpPiece ioPiece Go.Proofs.Try.f19 ((a0, a1, a2, ()), ()) = bodyPiece a0 a1 a2 := by kernel_rfl
theorem okPiece : HcOk prog 19 (ioHd ioPiece FPiece) := by
  refine fn_sound (n := 400) hm (cs := csPiece) HcsOk.nil (lp := lpPiece) (fn := Go.Proofs.Try.f19) (by kernel_rfl) (by kernel_rfl) (by kernel_rfl) ioPiece
    (.step (h0 := loHd loPiece_6 FPiece_6) (by kernel_rfl) (loop_sound (n := 400) hm (cs := csPiece) HcsOk.nil (lp := lpPiece) (fn := Go.Proofs.Try.f19) (.done (by kernel_rfl)) loPiece_6 FPiece_6 ?_) (.done (by kernel_rfl))) FPiece ?_
  · rintro ⟨⟨b, hi, o, i, ⟨⟩⟩, ⟨⟩⟩ y hw hy
    obtain ⟨hg, hy⟩ := Tr.guard hy
    simp only [Bool.and_eq_true, decide_eq_true_eq] at hg
    obtain ⟨n, rfl⟩ := toNat_of hg.1
    refine ⟨b.length + 1, (loopPiece b hi hw.1.1.1 _ o n (by omega) (by have := hg.2; omega) (by omega)).trans ?_⟩
    rw [← hy]; rfl
  · rintro ⟨⟨(b : List Int), (lo : Int), (hi : Int), ⟨⟩⟩, ⟨⟩⟩ out hw ho
    obtain ⟨hg, ho⟩ := Tr.guard ho
    cases ho
    refine (runPiece b lo hi).trans ?_
    simp only [decide_eq_true_eq] at hg
    have hg : b.length ≤ 4294967296 := hg
    unfold bodyPiece FPiece_6
    by_cases h0 : lo < 0
    · have : lo.toNat = 0 := by omega
      simp [Tr.run_ite, Tr.run_ret, hg, h0, this]
    · have h1 : 0 ≤ lo := by omega
      simp [Tr.run_ite, Tr.run_ret, hg, h0, h1]

/-! ### leat/leatref01.Wide -/
noncomputable abbrev ioWide : Io := ⟨[dL], [], [], [dO], none⟩
noncomputable def spMarks : List Int := (List.range 96).map fun i => ((i * 7 + 13 : Nat) : Int) % 256
noncomputable def FWide (d : ioWide.In) : Tr ioWide.Res := .ite (decide (d.1.1.length ≤ 4294967000)) (.ret (.ret ((d.1.1 ++ spMarks, ()), ()))) .no
noncomputable abbrev csWide : List (Nat × Hc) := [(23, ioHd ioCopy FCopy)]
noncomputable def hdWide : Hd := hdT csWide
noncomputable abbrev loWide_4 : Lo := ⟨⟨[.any, .any, .any, .one (.onl 5 (Ty.int IntKind.u8) 7), .one (.hol (.int IntKind.i64)), .any, .any, .any, .any, .any, .any, .any, .any, .any, .any, .any, .any, .any, .any], []⟩, [(.exit 0, ⟨[.any, .any, .any, .one (.onl 5 (Ty.int IntKind.u8) 7), .any, .any, .any, .any, .any, .any, .any, .any, .any, .any, .any, .any, .any, .any, .any], []⟩)]⟩
-- FWide_4 : loWide_4.st.den → Tr (DenX loWide_4.xs) | ((h1, (h2, ())), ())
noncomputable def FWide_4 (d : loWide_4.st.den) : Tr (DenX loWide_4.xs) :=
  .ite (decide (d.1.2.1 = 0) && decide (d.1.1.length ≤ 4294967000)) (.ret (.ret ((), ((d.1.1 ++ spMarks, ()), ())))) .no
noncomputable def lpWide : Lp := lpT [(4, loHd loWide_4 FWide_4)]
noncomputable def stepWide_4 {R : Type} (h1 : List Int) (h2 : Int) (next : List Int → Int → Option R) (out : DenX loWide_4.xs → Option R) : Option R := bif decide (h2 < 96) then bif decide (h1.length + [IntKind.u8.wrap (IntKind.i64.wrap (IntKind.i64.wrap (h2 * 7) + 13))].length ≤ 4294967296) then next (h1 ++ [IntKind.u8.wrap (IntKind.i64.wrap (IntKind.i64.wrap (h2 * 7) + 13))]) (IntKind.i64.wrap (h2 + 1)) else none else out (.ret ((), ((h1, ()), ())))
noncomputable def itWide_4 (n : Nat) (h1 : List Int) (h2 : Int) : Option (DenX loWide_4.xs) := lpN tt hdWide dr lpWide 0 Go.Proofs.Try.f10 (topL Go.Proofs.Try.f10 0) n (loWide_4.st.mk' ((h1, (h2, ())), ())) (decX loWide_4.xs)
theorem slWide_4 (n : Nat) (h1 : List Int) (h2 : Int) : itWide_4 (n + 1) h1 h2 = stepWide_4 h1 h2 (itWide_4 n) some := by kernel_rfl
theorem loopWide : ∀ (k : Nat) (o : List Int) (i : Nat), 96 < i + k → i ≤ 96 → o.length + (96 - i) ≤ 4294967296 →
    itWide_4 k o i = some (.ret ((), ((o ++ spMarks.drop i, ()), ()))) := by
  intro k
  induction k with
  | zero => intro o i _ _ h; omega
  | succ k ih =>
    intro o i h1 h2 h3
    rw [slWide_4]
    unfold stepWide_4
    by_cases hl : i < 96
    · have hlen : spMarks.length = 96 := by simp [spMarks]
      rw [wrap_succ hl (by rw [maxLen_eq]; omega), ih _ (i + 1) (by omega) (by omega) (by simp; omega)]
      rw [List.drop_eq_getElem_cons (show i < spMarks.length by omega)]
      have e1 : IntKind.i64.wrap ((i : Int) * 7) = (i : Int) * 7 := by rw [wrap_i64] <;> omega
      have e2 : IntKind.i64.wrap ((i : Int) * 7 + 13) = (i : Int) * 7 + 13 := by rw [wrap_i64] <;> omega
      have e3 : IntKind.u8.wrap ((i : Int) * 7 + 13) = spMarks[i]'(by omega) := by
        simp [IntKind.wrap, IntKind.signed, IntKind.bits, spMarks]
      rw [e1, e2, e3]
      have h4 : o.length + 1 ≤ 4294967296 := by omega
      have h5 : (i : Int) < 96 := by omega
      simp [h5, h4]
    · have hlen : spMarks.length = 96 := by simp [spMarks]
      rw [List.drop_of_length_le (by omega)]
      have h5 : ¬ (i : Int) < 96 := by omega
      simp [h5]
noncomputable def bodyWide (a0 : List Int) : Option ioWide.Res := bif decide (a0.length ≤ 4294967296) then (FWide_4 ((a0, (0, ())), ())).run fun y => match y with | .ret ((), ((x6, ()), ())) => (some (Out.ret ((x6, ()), ()))) else none
theorem runWide (a0 : List Int) : Io.run tt hdWide dr lpWide ioWide Go.Proofs.Try.f10 ((a0, ()), ()) = bodyWide a0 := by kernel_rfl
theorem okWide : HcOk prog 10 (ioHd ioWide FWide) := by
  refine fn_sound (n := 400) hm (cs := csWide) (.cons okCopy .nil) (lp := lpWide) (fn := Go.Proofs.Try.f10) (by kernel_rfl) (by kernel_rfl) (by kernel_rfl) ioWide
    (.step (h0 := loHd loWide_4 FWide_4) (by kernel_rfl) (loop_sound (n := 400) hm (cs := csWide) (.cons okCopy .nil) (lp := lpWide) (fn := Go.Proofs.Try.f10) (.done (by kernel_rfl)) loWide_4 FWide_4 ?_) (.done (by kernel_rfl))) FWide ?_
  · rintro ⟨⟨o, i, ⟨⟩⟩, ⟨⟩⟩ y hw hy
    obtain ⟨hg, hy⟩ := Tr.guard hy
    simp only [Bool.and_eq_true, decide_eq_true_eq] at hg
    obtain ⟨rfl, hl⟩ := hg
    refine ⟨97, (loopWide _ o 0 (by omega) (by omega) (by omega)).trans ?_⟩
    rw [← hy]; rfl
  · rintro ⟨⟨b, ⟨⟩⟩, ⟨⟩⟩ out hw ho
    obtain ⟨hg, ho⟩ := Tr.guard ho
    cases ho
    refine (runWide b).trans ?_
    simp only [decide_eq_true_eq] at hg
    have hg : b.length ≤ 4294967000 := hg
    have h1 : b.length ≤ 4294967296 := by omega
    unfold bodyWide FWide_4
    simp [Tr.run_ite, Tr.run_ret, hg, h1]

/-! ### leat/leatref01.Intact -/
noncomputable abbrev ioIntact : Io := ⟨[dL, dL], [], [], [dB], none⟩
noncomputable def FIntact (d : ioIntact.In) : Tr ioIntact.Res := .ite (decide (d.1.2.1.length ≤ 4294967000)) (.ret (.ret ((decide (d.1.1 = d.1.2.1 ++ spMarks), ()), ()))) .no
noncomputable abbrev csIntact : List (Nat × Hc) := [(10, ioHd ioWide FWide), (25, ioHd ioSame FSame)]
noncomputable def hdIntact : Hd := hdT csIntact
noncomputable def lpIntact : Lp := lpT []

noncomputable def bodyIntact (a0 : List Int) (a1 : List Int) : Option ioIntact.Res := bif decide (a1.length ≤ 4294967000) then some (Out.ret ((decide (a0 = a1 ++ spMarks), ()), ())) else none
theorem runIntact (a0 : List Int) (a1 : List Int) : Io.run tt hdIntact dr lpIntact ioIntact Go.Proofs.Try.f14 ((a0, a1, ()), ()) = bodyIntact a0 a1 := by kernel_rfl
theorem okIntact : HcOk prog 14 (ioHd ioIntact FIntact) := by
  refine fn_sound (n := 400) hm (cs := csIntact) (.cons okWide (.cons okSame .nil)) (lp := lpIntact) (fn := Go.Proofs.Try.f14) (by kernel_rfl) (by kernel_rfl) (by kernel_rfl) ioIntact (.done (by kernel_rfl)) FIntact ?_
  rintro ⟨⟨a, b, ⟨⟩⟩, ⟨⟩⟩ out hw ho
  obtain ⟨hg, ho⟩ := Tr.guard ho
  cases ho
  refine (runIntact a b).trans ?_
  unfold bodyIntact
  simp only [decide_eq_true_eq] at hg
  have hg : b.length ≤ 4294967000 := hg
  simp [hg]

end
end Go.Proofs.Ytnppjkijhcampaa.Sym
