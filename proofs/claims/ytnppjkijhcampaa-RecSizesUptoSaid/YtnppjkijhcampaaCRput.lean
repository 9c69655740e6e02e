/- leatref07: badBlob, blob, body, Check, Put. -/
import Derived.Test.YtnppjkijhcampaaCKput

namespace Go.Proofs.Ytnppjkijhcampaa.Sym
open Go
set_option linter.unusedSimpArgs false
set_option linter.unusedVariables false
noncomputable section

/-! ### leat/leatref07.badBlob -/
noncomputable abbrev iorbad : Io := ⟨[dBlob], [], [], [dB], none⟩
noncomputable def Frbad (d : iorbad.In) : Tr iorbad.Res := .ret (.ret ((spBad d.1.1, ()), ()))
noncomputable abbrev csrbad : List (Nat × Hc) := []
noncomputable def hdrbad : Hd := hdT csrbad
noncomputable def lprbad : Lp := lpT []

noncomputable def bodyrbad (a0 : Bool) (a1 : List Int) : Option iorbad.Res := bif a0 then some (Out.ret ((decide (0 < (↑a1.length : Int)), ()), ())) else some (Out.ret ((false, ()), ()))
theorem runrbad (a0 : Bool) (a1 : List Int) : Io.run tt hdrbad dr lprbad iorbad Go.Proofs.Try.f40 (((a0, a1, ()), ()), ()) = bodyrbad a0 a1 := by kernel_rfl
theorem okrbad : HcOk prog 40 (ioHd iorbad Frbad) := by
  refine fn_sound (n := 400) hm (cs := csrbad) .nil (lp := lprbad) (fn := Go.Proofs.Try.f40) (by kernel_rfl) (by kernel_rfl) (by kernel_rfl) iorbad (.done (by kernel_rfl)) Frbad ?_
  rintro ⟨⟨⟨(n : Bool), (b : List Int), ⟨⟩⟩, ⟨⟩⟩, ⟨⟩⟩ out hw ho
  cases ho
  refine (runrbad n b).trans ?_
  cases n <;> rfl

/-! ### leat/leatref07.blob -/
noncomputable abbrev iorwblob : Io := ⟨[dBlob], [], [], [dO], none⟩
noncomputable def Frwblob (d : iorwblob.In) : Tr iorwblob.Res := .ite (decide ((spBlob d.1.1).length ≤ 4294967296)) (.ret (.ret ((spBlob d.1.1, ()), ()))) .no
noncomputable abbrev csrwblob : List (Nat × Hc) := [(44, ioHd iorPut FrPut), (18, ioHd ioCat FCat)]
noncomputable def hdrwblob : Hd := hdT csrwblob
noncomputable def lprwblob : Lp := lpT []

noncomputable def bodyrwblob (a0 : Bool) (a1 : List Int) : Option iorwblob.Res := bif a0 then some (Out.ret ((spDig (spZig (-1)), ()), ())) else bif decide ((spDig (spZig (↑a1.length : Int))).length + a1.length ≤ 4294967296) then some (Out.ret ((spDig (spZig (↑a1.length : Int)) ++ a1, ()), ())) else none
theorem runrwblob (a0 : Bool) (a1 : List Int) : Io.run tt hdrwblob dr lprwblob iorwblob Go.Proofs.Try.f63 (((a0, a1, ()), ()), ()) = bodyrwblob a0 a1 := by kernel_rfl
theorem okrwblob : HcOk prog 63 (ioHd iorwblob Frwblob) := by
  refine fn_sound (n := 400) hm (cs := csrwblob) (.cons okrPut (.cons okCat .nil)) (lp := lprwblob) (fn := Go.Proofs.Try.f63) (by kernel_rfl) (by kernel_rfl) (by kernel_rfl) iorwblob (.done (by kernel_rfl)) Frwblob ?_
  rintro ⟨⟨⟨(n : Bool), (b : List Int), ⟨⟩⟩, ⟨⟩⟩, ⟨⟩⟩ out hw ho
  obtain ⟨hg, ho⟩ := Tr.guard ho
  have hg : (spBlob (n, b, ())).length ≤ 4294967296 := of_decide_eq_true hg
  cases ho
  refine (runrwblob n b).trans ?_
  show _ = some (Out.ret ((spBlob (n, b, ()), ()), ()))
  unfold bodyrwblob
  cases n with
  | true => rfl
  | false =>
    have e : spBlob (false, b, ()) = spDig (spZig b.length) ++ b := rfl
    rw [e] at hg ⊢
    simp only [List.length_append] at hg
    rw [bif_false rfl, bif_true (by simp; omega)]

/-! ### leat/leatref07.body -/
noncomputable abbrev iorbody : Io := ⟨[dRow], [], [], [dO], none⟩
noncomputable def Frbody (d : iorbody.In) : Tr iorbody.Res := .ite (spRoom d.1.1) (.ret (.ret ((spBody d.1.1, ()), ()))) .no
noncomputable abbrev csrbody : List (Nat × Hc) := [(44, ioHd iorPut FrPut), (18, ioHd ioCat FCat), (63, ioHd iorwblob Frwblob)]
noncomputable def hdrbody : Hd := hdT csrbody
noncomputable abbrev lorbody_8 : Lo := ⟨⟨[.any, .one (.ptr 1 0), .any, .one (.onl 5 (Ty.int IntKind.u8) 7), .one (.hol (.int IntKind.i64)), .any, .any, .any, .any, .any, .any, .any, .any, .any, .any, .any, .any, .any, .any, .any, .any, .any, .any, .any, .any, .any, .any, .any, .any, .any, .any, .any, .any, .any, .any, .any, .any, .any, .any, .any, .any, .any, .any, .any, .any, .any, .any, .any, .any, .any, .any, .any, .any, .any, .any, .any, .any, .any, .any, .any, .any, .any, .any, .any, .any], [none, some [.hol (.int IntKind.i64), .hol (.int IntKind.i32), .hol .bool, .hol (.sl 5 (Ty.int IntKind.u8)), .hol .bool, .hol (.sl 5 (Ty.int IntKind.u8)), .hol (.sl 49 (Ty.str.prod ((Ty.bool.prod ((Ty.sl 5 (Ty.int IntKind.u8)).prod Ty.unit)).prod Ty.unit)))]]⟩, [(.exit 0, ⟨[.any, .any, .any, .one (.onl 5 (Ty.int IntKind.u8) 7), .any, .any, .any, .any, .any, .any, .any, .any, .any, .any, .any, .any, .any, .any, .any, .any, .any, .any, .any, .any, .any, .any, .any, .any, .any, .any, .any, .any, .any, .any, .any, .any, .any, .any, .any, .any, .any, .any, .any, .any, .any, .any, .any, .any, .any, .any, .any, .any, .any, .any, .any, .any, .any, .any, .any, .any, .any, .any, .any, .any, .any], []⟩)]⟩
-- Frbody_8 : lorbody_8.st.den → Tr (DenX lorbody_8.xs) | ((h7, (h8, ())), ((h9, (h10, (h11, (h12, (h13, (h14, (h15, ()))))))), ()))
noncomputable def Frbody_8 (d : lorbody_8.st.den) : Tr (DenX lorbody_8.xs) :=
  .ite (decide (d.1.2.1 = (0 : Int)) && decide (d.1.1.length + (spWHeads d.2.1.2.2.2.2.2.2.1).length ≤ 4294967296)) (.ret (.ret ((), ((d.1.1 ++ spWHeads d.2.1.2.2.2.2.2.2.1, ()), ())))) .no
noncomputable def lprbody : Lp := lpT [(8, loHd lorbody_8 Frbody_8)]
noncomputable def steprbody_8 {R : Type} (h7 : List Int) (h8 : Int) (h9 : Int) (h10 : Int) (h11 : Bool) (h12 : List Int) (h13 : Bool) (h14 : List Int) (h15 : List tHead.den) (next : List Int → Int → Int → Int → Bool → List Int → Bool → List Int → List tHead.den → Option R) (out : DenX lorbody_8.xs → Option R) : Option R := bif decide (h8 < (↑h15.length : Int)) then bif decide (0 ≤ h8) && decide (h8 < (↑h15.length : Int)) then bif decide (h7.length + (spDig (spZig (↑(List.length (h15.getD h8.toNat ([], (false, [], ()), ())).fst) : Int))).length ≤ 4294967296) then bif decide (List.length (h7 ++ spDig (spZig (↑(List.length (h15.getD h8.toNat ([], (false, [], ()), ())).fst) : Int))) + List.length (h15.getD h8.toNat ([], (false, [], ()), ())).fst ≤ 4294967296) then bif decide (0 ≤ h8) && decide (h8 < (↑h15.length : Int)) then bif decide ((spBlob ((h15.getD h8.toNat ([], (false, [], ()), ())).snd.fst.fst, (h15.getD h8.toNat ([], (false, [], ()), ())).snd.fst.snd.fst, ())).length ≤ 4294967296) then bif decide (List.length (h7 ++ spDig (spZig (↑(List.length (h15.getD h8.toNat ([], (false, [], ()), ())).fst) : Int)) ++ (h15.getD h8.toNat ([], (false, [], ()), ())).fst) + (spBlob ((h15.getD h8.toNat ([], (false, [], ()), ())).snd.fst.fst, (h15.getD h8.toNat ([], (false, [], ()), ())).snd.fst.snd.fst, ())).length ≤ 4294967296) then next (h7 ++ spDig (spZig (↑(List.length (h15.getD h8.toNat ([], (false, [], ()), ())).fst) : Int)) ++ (h15.getD h8.toNat ([], (false, [], ()), ())).fst ++ spBlob ((h15.getD h8.toNat ([], (false, [], ()), ())).snd.fst.fst, (h15.getD h8.toNat ([], (false, [], ()), ())).snd.fst.snd.fst, ())) (IntKind.i64.wrap (h8 + 1)) (h9) (h10) (h11) (h12) (h13) (h14) (h15) else none else none else none else none else none else none else out (.ret ((), ((h7, ()), ())))
noncomputable def itrbody_8 (n : Nat) (h7 : List Int) (h8 : Int) (h9 : Int) (h10 : Int) (h11 : Bool) (h12 : List Int) (h13 : Bool) (h14 : List Int) (h15 : List tHead.den) : Option (DenX lorbody_8.xs) := lpN tt hdrbody dr lprbody 0 Go.Proofs.Try.f42 (topL Go.Proofs.Try.f42 0) n (lorbody_8.st.mk' ((h7, (h8, ())), ((h9, (h10, (h11, (h12, (h13, (h14, (h15, ()))))))), ()))) (decX lorbody_8.xs)
theorem slrbody_8 (n : Nat) (h7 : List Int) (h8 : Int) (h9 : Int) (h10 : Int) (h11 : Bool) (h12 : List Int) (h13 : Bool) (h14 : List Int) (h15 : List tHead.den) : itrbody_8 (n + 1) h7 h8 h9 h10 h11 h12 h13 h14 h15 = steprbody_8 h7 h8 h9 h10 h11 h12 h13 h14 h15 (itrbody_8 n) some := by kernel_rfl
theorem looprbody (h9 h10 : Int) (h11 : Bool) (h12 : List Int) (h13 : Bool) (h14 : List Int) (hs : List Head) (hm : hs.length ≤ maxLen) : ∀ (k i : Nat) (o : List Int), i ≤ hs.length → hs.length < i + k → o.length + (spWHeads (hs.drop i)).length ≤ 4294967296 →
    itrbody_8 k o (i : Int) h9 h10 h11 h12 h13 h14 hs = some (.ret ((), ((o ++ spWHeads (hs.drop i), ()), ()))) := by
  intro k
  induction k with
  | zero => intro i o h1 h2; omega
  | succ k ih =>
    intro i o h1 h2 h3
    rw [slrbody_8]
    unfold steprbody_8
    by_cases h4 : i < hs.length
    · have e : (hs.getD (i : Int).toNat ([], (false, [], ()), ()) : Head) = hs[i] := getD_lt h4
      rw [List.drop_eq_getElem_cons h4, ← e] at h3 ⊢
      rw [wrap_succ h4 hm]
      generalize (hs.getD (i : Int).toNat ([], (false, [], ()), ()) : Head) = x at *
      obtain ⟨x1, ⟨x2, x3, ⟨⟩⟩, ⟨⟩⟩ := x
      have eW : spWHeads ((x1, (x2, x3, ()), ()) :: hs.drop (i + 1)) = spDig (spZig x1.length) ++ (x1 ++ spBlob (x2, x3, ())) ++ spWHeads (hs.drop (i + 1)) := by simp [spWHeads, spWHead]
      rw [eW] at h3 ⊢
      simp only [List.length_append] at h3
      rw [bif_true (by simpa using h4), bif_true (by simp [h4]), bif_true (by simp; omega), bif_true (by simp; omega), bif_true (by simp [h4]), bif_true (by simp; omega), bif_true (by simp; omega)]
      refine (ih (i + 1) _ h4 (by omega) (by simp only [List.length_append]; omega)).trans ?_
      simp only [List.append_assoc]
    · rw [List.drop_of_length_le (by omega)]
      rw [bif_false (by simpa using h4)]
      simp [spWHeads]
noncomputable def bodyrbody (a0 : Int) (a1 : Int) (a2 : Bool) (a3 : List Int) (a4 : Bool) (a5 : List Int) (a6 : List tHead.den) : Option iorbody.Res := bif decide ([0].length + (spDig (spZig a0)).length ≤ 4294967296) then bif decide (List.length ([0] ++ spDig (spZig a0)) + (spDig (spZig (IntKind.i64.wrap a1))).length ≤ 4294967296) then bif decide ((spBlob (a2, a3, ())).length ≤ 4294967296) then bif decide (List.length ([0] ++ spDig (spZig a0) ++ spDig (spZig (IntKind.i64.wrap a1))) + (spBlob (a2, a3, ())).length ≤ 4294967296) then bif decide ((spBlob (a4, a5, ())).length ≤ 4294967296) then bif decide (List.length ([0] ++ spDig (spZig a0) ++ spDig (spZig (IntKind.i64.wrap a1)) ++ spBlob (a2, a3, ())) + (spBlob (a4, a5, ())).length ≤ 4294967296) then bif decide (List.length ([0] ++ spDig (spZig a0) ++ spDig (spZig (IntKind.i64.wrap a1)) ++ spBlob (a2, a3, ()) ++ spBlob (a4, a5, ())) + (spDig (spZig (↑a6.length : Int))).length ≤ 4294967296) then (Frbody_8 (([0] ++ spDig (spZig a0) ++ spDig (spZig (IntKind.i64.wrap a1)) ++ spBlob (a2, a3, ()) ++ spBlob (a4, a5, ()) ++ spDig (spZig (↑a6.length : Int)), (0, ())), ((a0, (a1, (a2, (a3, (a4, (a5, (a6, ()))))))), ()))).run fun y => match y with | .ret ((), ((x26, ()), ())) => (some (Out.ret ((x26, ()), ()))) else none else none else none else none else none else none else none
theorem runrbody (a0 : Int) (a1 : Int) (a2 : Bool) (a3 : List Int) (a4 : Bool) (a5 : List Int) (a6 : List tHead.den) : Io.run tt hdrbody dr lprbody iorbody Go.Proofs.Try.f42 (((a0, a1, (a2, a3, ()), (a4, a5, ()), a6, ()), ()), ()) = bodyrbody a0 a1 a2 a3 a4 a5 a6 := by kernel_rfl
theorem okrbody : HcOk prog 42 (ioHd iorbody Frbody) := by
  have hcs : HcsOk prog csrbody := .cons okrPut (.cons okCat (.cons okrwblob .nil))
  refine fn_sound (n := 400) hm (cs := csrbody) hcs (lp := lprbody) (fn := Go.Proofs.Try.f42) (by kernel_rfl) (by kernel_rfl) (by kernel_rfl) iorbody
    (.step (h0 := loHd lorbody_8 Frbody_8) (by kernel_rfl) (loop_sound (n := 400) hm (cs := csrbody) hcs (lp := lprbody) (fn := Go.Proofs.Try.f42) (.done (by kernel_rfl)) lorbody_8 Frbody_8 ?_) (.done (by kernel_rfl))) Frbody ?_
  · rintro ⟨⟨(o : List Int), (i : Int), ⟨⟩⟩, ⟨(h9 : Int), (h10 : Int), (h11 : Bool), (h12 : List Int), (h13 : Bool), (h14 : List Int), (hs : List Head), ⟨⟩⟩, ⟨⟩⟩ y hw hy
    obtain ⟨hg, hy⟩ := Tr.guard hy
    simp only [Bool.and_eq_true, decide_eq_true_eq] at hg
    obtain ⟨hi, hl⟩ := hg
    have hi : i = 0 := hi
    subst hi
    refine ⟨hs.length + 1, (looprbody h9 h10 h11 h12 h13 h14 hs hw.2.1.2.2.2.2.2.2.1.1 _ 0 o (by omega) (by omega) hl).trans ?_⟩
    rw [← hy]
    rfl
  · rintro ⟨⟨⟨(a0 : Int), (a1 : Int), ⟨(a2 : Bool), (a3 : List Int), ⟨⟩⟩, ⟨(a4 : Bool), (a5 : List Int), ⟨⟩⟩, (a6 : List Head), ⟨⟩⟩, ⟨⟩⟩, ⟨⟩⟩ out hw ho
    obtain ⟨hg, ho⟩ := Tr.guard ho
    cases ho
    refine (runrbody a0 a1 a2 a3 a4 a5 a6).trans ?_
    have ha1 : inR .i32 a1 := hw.1.1.2.1
    have ha1 : -2147483648 ≤ a1 ∧ a1 ≤ 2147483647 := by simpa [inR, IntKind.min, IntKind.max, IntKind.signed, IntKind.bits] using ha1
    have hg : (spBody (a0, a1, (a2, a3, ()), (a4, a5, ()), a6, ())).length ≤ 4294967000 := of_decide_eq_true hg
    show _ = some (Out.ret ((spBody (a0, a1, (a2, a3, ()), (a4, a5, ()), a6, ()), ()), ()))
    have eb : spBody (a0, a1, (a2, a3, ()), (a4, a5, ()), a6, ()) = [0] ++ spDig (spZig a0) ++ spDig (spZig a1) ++ spBlob (a2, a3, ()) ++ spBlob (a4, a5, ()) ++ spDig (spZig a6.length) ++ spWHeads a6 := by
      simp [spBody]
    rw [eb] at hg ⊢
    simp only [List.length_append] at hg
    unfold bodyrbody
    rw [wrap_i64 (n := a1) (by omega) (by omega), bif_true (by simp; omega), bif_true (by simp; omega), bif_true (by simp; omega), bif_true (by simp; omega), bif_true (by simp; omega), bif_true (by simp; omega), bif_true (by simp; omega)]
    unfold Frbody_8
    simp only [Tr.run_ite, Tr.run_ret]
    rw [if_pos (by simp; omega)]

/-! ### leat/leatref07.Check -/
noncomputable abbrev iorCheck : Io := ⟨[dRow], [], [], [dI], none⟩
noncomputable def FrCheck (d : iorCheck.In) : Tr iorCheck.Res := .ite (spRoom d.1.1) (.ret (.ret ((spCheck d.1.1, ()), ()))) .no
noncomputable abbrev csrCheck : List (Nat × Hc) := [(40, ioHd iorbad Frbad), (41, ioHd iorUtf FrUtf), (42, ioHd iorbody Frbody)]
noncomputable def hdrCheck : Hd := hdT csrCheck
noncomputable abbrev lorCheck_9 : Lo := ⟨⟨[.any, .one (.ptr 1 0), .any, .one (.hol (.int IntKind.i64)), .any, .any, .any, .any, .any, .any, .any, .any, .any, .any, .any, .any, .any, .any, .any, .any, .any, .any, .any, .any, .any, .any, .any, .any, .any, .any, .any, .any, .any, .any, .any, .any, .any, .any, .any, .any, .any, .any, .any, .any, .any, .any, .any, .any, .any, .any, .any, .any], [none, some [.hol (.int IntKind.i64), .hol (.int IntKind.i32), .hol .bool, .hol (.sl 5 (Ty.int IntKind.u8)), .hol .bool, .hol (.sl 5 (Ty.int IntKind.u8)), .hol (.sl 49 (Ty.str.prod ((Ty.bool.prod ((Ty.sl 5 (Ty.int IntKind.u8)).prod Ty.unit)).prod Ty.unit)))]]⟩, [(.ret, ⟨[.any, .any, .one (.hol (.int IntKind.i64)), .any, .any, .any, .any, .any, .any, .any, .any, .any, .any, .any, .any, .any, .any, .any, .any, .any, .any, .any, .any, .any, .any, .any, .any, .any, .any, .any, .any, .any, .any, .any, .any, .any, .any, .any, .any, .any, .any, .any, .any, .any, .any, .any, .any, .any, .any, .any, .any, .any], []⟩), (.exit 0, ⟨[.any, .one (.ptr 1 0), .any, .any, .any, .any, .any, .any, .any, .any, .any, .any, .any, .any, .any, .any, .any, .any, .any, .any, .any, .any, .any, .any, .any, .any, .any, .any, .any, .any, .any, .any, .any, .any, .any, .any, .any, .any, .any, .any, .any, .any, .any, .any, .any, .any, .any, .any, .any, .any, .any, .any], [none, some [.hol (.int IntKind.i64), .hol (.int IntKind.i32), .hol .bool, .hol (.sl 5 (Ty.int IntKind.u8)), .hol .bool, .hol (.sl 5 (Ty.int IntKind.u8)), .hol (.sl 49 (Ty.str.prod ((Ty.bool.prod ((Ty.sl 5 (Ty.int IntKind.u8)).prod Ty.unit)).prod Ty.unit)))]]⟩)]⟩
-- FrCheck_9 : lorCheck_9.st.den → Tr (DenX lorCheck_9.xs) | ((h7, ()), ((h8, (h9, (h10, (h11, (h12, (h13, (h14, ()))))))), ()))
noncomputable def FrCheck_9 (d : lorCheck_9.st.den) : Tr (DenX lorCheck_9.xs) :=
  .ite (decide (d.1.1 = (0 : Int))) (.ite (decide (spHErr d.2.1.2.2.2.2.2.2.1 = (0 : Int))) (.ret (.pan (.ret ((), ((), (d.2.1, ())))))) (.ret (.ret ((), ((spHErr d.2.1.2.2.2.2.2.2.1, ()), ()))))) .no
noncomputable def lprCheck : Lp := lpT [(9, loHd lorCheck_9 FrCheck_9)]
noncomputable def steprCheck_9 {R : Type} (h7 : Int) (h8 : Int) (h9 : Int) (h10 : Bool) (h11 : List Int) (h12 : Bool) (h13 : List Int) (h14 : List tHead.den) (next : Int → Int → Int → Bool → List Int → Bool → List Int → List tHead.den → Option R) (out : DenX lorCheck_9.xs → Option R) : Option R := bif decide (h7 < (↑h14.length : Int)) then bif decide (0 ≤ h7) && decide (h7 < (↑h14.length : Int)) then bif !(spUtf (h14.getD h7.toNat ([], (false, [], ()), ())).fst).snd then out (.ret ((), ((6, ()), ()))) else bif decide (0 ≤ h7) && decide (h7 < (↑h14.length : Int)) then bif spBad ((h14.getD h7.toNat ([], (false, [], ()), ())).snd.fst.fst, (h14.getD h7.toNat ([], (false, [], ()), ())).snd.fst.snd.fst, ()) then out (.ret ((), ((70, ()), ()))) else next (IntKind.i64.wrap (h7 + 1)) (h8) (h9) (h10) (h11) (h12) (h13) (h14) else none else none else out (.pan (.ret ((), ((), ((h8, (h9, (h10, (h11, (h12, (h13, (h14, ()))))))), ())))))
noncomputable def itrCheck_9 (n : Nat) (h7 : Int) (h8 : Int) (h9 : Int) (h10 : Bool) (h11 : List Int) (h12 : Bool) (h13 : List Int) (h14 : List tHead.den) : Option (DenX lorCheck_9.xs) := lpN tt hdrCheck dr lprCheck 0 Go.Proofs.Try.f17 (topL Go.Proofs.Try.f17 0) n (lorCheck_9.st.mk' ((h7, ()), ((h8, (h9, (h10, (h11, (h12, (h13, (h14, ()))))))), ()))) (decX lorCheck_9.xs)
theorem slrCheck_9 (n : Nat) (h7 : Int) (h8 : Int) (h9 : Int) (h10 : Bool) (h11 : List Int) (h12 : Bool) (h13 : List Int) (h14 : List tHead.den) : itrCheck_9 (n + 1) h7 h8 h9 h10 h11 h12 h13 h14 = steprCheck_9 h7 h8 h9 h10 h11 h12 h13 h14 (itrCheck_9 n) some := by kernel_rfl
theorem looprCheck (h8 h9 : Int) (h10 : Bool) (h11 : List Int) (h12 : Bool) (h13 : List Int) (hs : List Head) (hm : hs.length ≤ maxLen) : ∀ (k i : Nat), i ≤ hs.length → hs.length < i + k →
    itrCheck_9 k (i : Int) h8 h9 h10 h11 h12 h13 hs = if spHErr (hs.drop i) = 0 then some (.pan (.ret ((), ((), ((h8, (h9, (h10, (h11, (h12, (h13, (hs, ()))))))), ()))))) else some (.ret ((), ((spHErr (hs.drop i), ()), ()))) := by
  intro k
  induction k with
  | zero => intro i h1 h2; omega
  | succ k ih =>
    intro i h1 h2
    rw [slrCheck_9]
    unfold steprCheck_9
    by_cases h3 : i < hs.length
    · have e : (hs.getD (i : Int).toNat ([], (false, [], ()), ()) : Head) = hs[i] := getD_lt h3
      rw [List.drop_eq_getElem_cons h3, ← e, wrap_succ h3 hm]
      generalize (hs.getD (i : Int).toNat ([], (false, [], ()), ()) : Head) = x
      obtain ⟨x1, ⟨x2, x3, ⟨⟩⟩, ⟨⟩⟩ := x
      rw [bif_true (by simpa using h3), bif_true (by simp [h3])]
      by_cases h4 : (spUtf x1).2 = false
      · have eE : spHErr ((x1, (x2, x3, ()), ()) :: hs.drop (i + 1)) = 6 := by unfold spHErr; rw [if_pos h4]
        rw [eE, bif_true (by simpa using h4)]
        rfl
      · rw [bif_false (by simpa using h4), bif_true (by simp [h3])]
        by_cases h5 : spBad (x2, x3, ()) = true
        · have eE : spHErr ((x1, (x2, x3, ()), ()) :: hs.drop (i + 1)) = 70 := by unfold spHErr; rw [if_neg h4, if_pos h5]
          rw [eE, bif_true h5]
          rfl
        · have eE : spHErr ((x1, (x2, x3, ()), ()) :: hs.drop (i + 1)) = spHErr (hs.drop (i + 1)) := by rw [spHErr, if_neg h4, if_neg h5]
          rw [eE, bif_false (by simpa using h5)]
          exact ih (i + 1) h3 (by omega)
    · rw [List.drop_of_length_le (by omega)]
      rw [bif_false (by simpa using h3)]
      rfl
noncomputable def bodyrCheck (a0 : Int) (a1 : Int) (a2 : Bool) (a3 : List Int) (a4 : Bool) (a5 : List Int) (a6 : List tHead.den) : Option iorCheck.Res := bif decide (a1 < 0) then some (Out.ret ((72, ()), ())) else bif spBad (a2, a3, ()) then some (Out.ret ((70, ()), ())) else bif spBad (a4, a5, ()) then some (Out.ret ((70, ()), ())) else bif decide (16 < (↑a6.length : Int)) then some (Out.ret ((9, ()), ())) else (FrCheck_9 ((0, ()), ((a0, (a1, (a2, (a3, (a4, (a5, (a6, ()))))))), ()))).run fun y => match y with | .ret ((), ((x32, ()), ())) => (some (Out.ret ((x32, ()), ()))) | .pan (.ret ((), ((), (x33, x34, x35, x36, x37, x38, x39, ()), ()))) => (bif spRoom (x33, x34, (x35, x36, ()), (x37, x38, ()), x39, ()) then bif decide (16384 < (↑(spBody (x33, x34, (x35, x36, ()), (x37, x38, ()), x39, ())).length : Int)) then some (Out.ret ((4, ()), ())) else some (Out.ret ((0, ()), ())) else none)
theorem runrCheck (a0 : Int) (a1 : Int) (a2 : Bool) (a3 : List Int) (a4 : Bool) (a5 : List Int) (a6 : List tHead.den) : Io.run tt hdrCheck dr lprCheck iorCheck Go.Proofs.Try.f17 (((a0, a1, (a2, a3, ()), (a4, a5, ()), a6, ()), ()), ()) = bodyrCheck a0 a1 a2 a3 a4 a5 a6 := by kernel_rfl
theorem okrCheck : HcOk prog 17 (ioHd iorCheck FrCheck) := by
  have hcs : HcsOk prog csrCheck := .cons okrbad (.cons okrUtf (.cons okrbody .nil))
  refine fn_sound (n := 400) hm (cs := csrCheck) hcs (lp := lprCheck) (fn := Go.Proofs.Try.f17) (by kernel_rfl) (by kernel_rfl) (by kernel_rfl) iorCheck
    (.step (h0 := loHd lorCheck_9 FrCheck_9) (by kernel_rfl) (loop_sound (n := 400) hm (cs := csrCheck) hcs (lp := lprCheck) (fn := Go.Proofs.Try.f17) (.done (by kernel_rfl)) lorCheck_9 FrCheck_9 ?_) (.done (by kernel_rfl))) FrCheck ?_
  · rintro ⟨⟨(i : Int), ⟨⟩⟩, ⟨(h8 : Int), (h9 : Int), (h10 : Bool), (h11 : List Int), (h12 : Bool), (h13 : List Int), (hs : List Head), ⟨⟩⟩, ⟨⟩⟩ y hw hy
    obtain ⟨hg, hy⟩ := Tr.guard hy
    have hi : i = 0 := of_decide_eq_true hg
    subst hi
    refine ⟨hs.length + 1, (looprCheck h8 h9 h10 h11 h12 h13 hs hw.2.1.2.2.2.2.2.2.1.1 _ 0 (by omega) (by omega)).trans ?_⟩
    rw [← hy]
    simp only [Tr.val_ite, decide_eq_true_eq, Tr.val_ret, List.drop_zero]
  · rintro ⟨⟨⟨(a0 : Int), (a1 : Int), ⟨(a2 : Bool), (a3 : List Int), ⟨⟩⟩, ⟨(a4 : Bool), (a5 : List Int), ⟨⟩⟩, (a6 : List Head), ⟨⟩⟩, ⟨⟩⟩, ⟨⟩⟩ out hw ho
    obtain ⟨hg, ho⟩ := Tr.guard ho
    cases ho
    refine (runrCheck a0 a1 a2 a3 a4 a5 a6).trans ?_
    have hg : spRoom (a0, a1, (a2, a3, ()), (a4, a5, ()), a6, ()) = true := hg
    unfold bodyrCheck FrCheck_9
    show _ = some (Out.ret ((spCheck (a0, a1, (a2, a3, ()), (a4, a5, ()), a6, ()), ()), ()))
    simp only [Tr.run_ite, Tr.run_ret]
    have eS : spShape (a0, a1, (a2, a3, ()), (a4, a5, ()), a6, ()) = if a1 < 0 then 72 else if spBad (a2, a3, ()) = true ∨ spBad (a4, a5, ()) = true then 70 else if 16 < (a6.length : Int) then 9 else spHErr a6 := rfl
    by_cases h1 : a1 < 0
    · rw [if_pos h1] at eS
      rw [bif_true (by simpa using h1)]
      unfold spCheck
      rw [eS]
      rfl
    rw [if_neg h1] at eS
    rw [bif_false (by simpa using h1)]
    by_cases h2 : spBad (a2, a3, ()) = true
    · rw [if_pos (.inl h2)] at eS
      rw [bif_true h2]
      unfold spCheck
      rw [eS]
      rfl
    rw [bif_false (by simpa using h2)]
    by_cases h3 : spBad (a4, a5, ()) = true
    · rw [if_pos (.inr h3)] at eS
      rw [bif_true h3]
      unfold spCheck
      rw [eS]
      rfl
    rw [if_neg (show ¬ (spBad (a2, a3, ()) = true ∨ spBad (a4, a5, ()) = true) from fun h => h.elim h2 h3)] at eS
    rw [bif_false (by simpa using h3)]
    by_cases h4 : 16 < (a6.length : Int)
    · rw [if_pos h4] at eS
      rw [bif_true (by simpa using h4)]
      unfold spCheck
      rw [eS]
      rfl
    rw [if_neg h4] at eS
    rw [bif_false (by simpa using h4), if_pos (by simp)]
    by_cases h5 : spHErr a6 = 0
    · rw [if_pos (decide_eq_true h5)]
      rw [bif_true hg]
      unfold spCheck
      rw [if_neg (notNe (eS.trans h5))]
      simp only [cond_eq_ite, decide_eq_true_eq]
      split
      · rfl
      · rfl
    · rw [if_neg (by simpa using h5)]
      unfold spCheck
      rw [eS, if_pos h5]

/-! ### leat/leatref07.Put -/
noncomputable abbrev iorRPut : Io := ⟨[dRow], [], [], [dL, dI], none⟩
noncomputable def FrRPut (d : iorRPut.In) : Tr iorRPut.Res := .ite (spRoom d.1.1) (.ret (.ret (((spPutR d.1.1).1, (spPutR d.1.1).2, ()), ()))) .no
noncomputable abbrev csrRPut : List (Nat × Hc) := [(17, ioHd iorCheck FrCheck), (42, ioHd iorbody Frbody), (44, ioHd iorPut FrPut), (18, ioHd ioCat FCat)]
noncomputable def hdrRPut : Hd := hdT csrRPut
noncomputable def lprRPut : Lp := lpT []

noncomputable def bodyrRPut (a0 : Int) (a1 : Int) (a2 : Bool) (a3 : List Int) (a4 : Bool) (a5 : List Int) (a6 : List tHead.den) : Option iorRPut.Res := bif spRoom (a0, a1, (a2, a3, ()), (a4, a5, ()), a6, ()) then bif spCheck (a0, a1, (a2, a3, ()), (a4, a5, ()), a6, ()) != 0 then some (Out.ret (([], spCheck (a0, a1, (a2, a3, ()), (a4, a5, ()), a6, ()), ()), ())) else bif spRoom (a0, a1, (a2, a3, ()), (a4, a5, ()), a6, ()) then bif decide ((spDig (spZig (↑(spBody (a0, a1, (a2, a3, ()), (a4, a5, ()), a6, ())).length : Int))).length + (spBody (a0, a1, (a2, a3, ()), (a4, a5, ()), a6, ())).length ≤ 4294967296) then some (Out.ret ((spDig (spZig (↑(spBody (a0, a1, (a2, a3, ()), (a4, a5, ()), a6, ())).length : Int)) ++ spBody (a0, a1, (a2, a3, ()), (a4, a5, ()), a6, ()), 0, ()), ())) else none else none else none
theorem runrRPut (a0 : Int) (a1 : Int) (a2 : Bool) (a3 : List Int) (a4 : Bool) (a5 : List Int) (a6 : List tHead.den) : Io.run tt hdrRPut dr lprRPut iorRPut Go.Proofs.Try.f27 (((a0, a1, (a2, a3, ()), (a4, a5, ()), a6, ()), ()), ()) = bodyrRPut a0 a1 a2 a3 a4 a5 a6 := by kernel_rfl
theorem okrRPut : HcOk prog 27 (ioHd iorRPut FrRPut) := by
  refine fn_sound (n := 400) hm (cs := csrRPut) (.cons okrCheck (.cons okrbody (.cons okrPut (.cons okCat .nil)))) (lp := lprRPut) (fn := Go.Proofs.Try.f27) (by kernel_rfl) (by kernel_rfl) (by kernel_rfl) iorRPut (.done (by kernel_rfl)) FrRPut ?_
  rintro ⟨⟨⟨(a0 : Int), (a1 : Int), ⟨(a2 : Bool), (a3 : List Int), ⟨⟩⟩, ⟨(a4 : Bool), (a5 : List Int), ⟨⟩⟩, (a6 : List Head), ⟨⟩⟩, ⟨⟩⟩, ⟨⟩⟩ out hw ho
  obtain ⟨hg, ho⟩ := Tr.guard ho
  cases ho
  refine (runrRPut a0 a1 a2 a3 a4 a5 a6).trans ?_
  show _ = some (Out.ret (((spPutR (a0, a1, (a2, a3, ()), (a4, a5, ()), a6, ())).1, (spPutR (a0, a1, (a2, a3, ()), (a4, a5, ()), a6, ())).2, ()), ()))
  have hg : spRoom (a0, a1, (a2, a3, ()), (a4, a5, ()), a6, ()) = true := hg
  unfold bodyrRPut
  generalize ((a0, a1, (a2, a3, ()), (a4, a5, ()), a6, ()) : RowD) = r at *
  have hl : (spBody r).length ≤ 4294967000 := of_decide_eq_true hg
  rw [bif_true hg, bif_true hg]
  by_cases h1 : spCheck r = 0
  · have e2 : spPutR r = (spDig (spZig (spBody r).length) ++ spBody r, 0) := by unfold spPutR; rw [if_pos h1]
    have := spDig_len (spZig (spBody r).length)
    rw [e2, bif_false (by simpa using h1), bif_true (by simp; omega)]
  · have e2 : spPutR r = ([], spCheck r) := by unfold spPutR; rw [if_neg h1]
    rw [e2, bif_true (by simpa using h1)]

end
end Go.Proofs.Ytnppjkijhcampaa.Sym
