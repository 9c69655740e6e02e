/- leatref07: badBlob, blob, body, Check, Put. -/
import Derived.Test.YtnppjkijhcampaaRows
import Derived.WalkKit
import Derived.ProofKit
import Derived.OpenShut
import Derived.JoinedCond
import Derived.ChangeStays
import Derived.DataReads
import Derived.Test.YtnppjkijhcampaaQ4

namespace Go.Proofs.Ytnppjkijhcampaa.Sym
open Go
set_option linter.unusedSimpArgs false
set_option linter.unusedVariables false
noncomputable section

/-! ### leat/leatref07.badBlob -/
noncomputable abbrev iorbad : Io := ⟨[dBlob], [], [], [dB], none⟩
noncomputable def Frbad (d : iorbad.In) : Tr iorbad.Res := .ret (.ret ((spBad d.1.1, ()), ()))
noncomputable abbrev csrbad : List (Nat × Hc) := []
noncomputable def hdrbad : Hd := hdT csrbad
noncomputable def lprbad : Lp := lpT []

noncomputable def bodyrbad (a0 : Bool) (a1 : List Int) : Option iorbad.Res := bif a0 then some (Out.ret ((decide (0 < (↑a1.length : Int)), ()), ())) else some (Out.ret ((false, ()), ()))
theorem runrbad (a0 : Bool) (a1 : List Int) : Io.run tt hdrbad dr lprbad iorbad Go.Proofs.Try.f40 (((a0, a1, ()), ()), ()) = bodyrbad a0 a1 := by kernel_rfl
theorem okrbad : HcOk prog 40 (ioHd iorbad Frbad) := by
  refine fn_sound (n := 400) hm (cs := csrbad) .nil (lp := lprbad) (fn := Go.Proofs.Try.f40) (by kernel_rfl) (by kernel_rfl) (by kernel_rfl) iorbad (.done (by kernel_rfl)) Frbad ?_
  rintro ⟨⟨⟨(n : Bool), (b : List Int), ⟨⟩⟩, ⟨⟩⟩, ⟨⟩⟩ out hw ho
  cases ho
  refine (runrbad n b).trans ?_
  cases n <;> rfl

/-! ### leat/leatref07.blob -/
noncomputable abbrev iorwblob : Io := ⟨[dBlob], [], [], [dO], none⟩
noncomputable def Frwblob (d : iorwblob.In) : Tr iorwblob.Res := .ite (decide ((spBlob d.1.1).length ≤ 4294967296)) (.ret (.ret ((spBlob d.1.1, ()), ()))) .no
noncomputable abbrev csrwblob : List (Nat × Hc) := [(44, ioHd iorPut FrPut), (18, ioHd ioCat FCat)]
noncomputable def hdrwblob : Hd := hdT csrwblob
noncomputable def lprwblob : Lp := lpT []

noncomputable def bodyrwblob (a0 : Bool) (a1 : List Int) : Option iorwblob.Res := bif a0 then some (Out.ret ((spDig (spZig (-1)), ()), ())) else bif decide ((spDig (spZig (↑a1.length : Int))).length + a1.length ≤ 4294967296) then some (Out.ret ((spDig (spZig (↑a1.length : Int)) ++ a1, ()), ())) else none
theorem runrwblob (a0 : Bool) (a1 : List Int) : Io.run tt hdrwblob dr lprwblob iorwblob Go.Proofs.Try.f63 (((a0, a1, ()), ()), ()) = bodyrwblob a0 a1 := by kernel_rfl
theorem okrwblob : HcOk prog 63 (ioHd iorwblob Frwblob) := by
  refine fn_sound (n := 400) hm (cs := csrwblob) (.cons okrPut (.cons okCat .nil)) (lp := lprwblob) (fn := Go.Proofs.Try.f63) (by kernel_rfl) (by kernel_rfl) (by kernel_rfl) iorwblob (.done (by kernel_rfl)) Frwblob ?_
  rintro ⟨⟨⟨(n : Bool), (b : List Int), ⟨⟩⟩, ⟨⟩⟩, ⟨⟩⟩ out hw ho
  obtain ⟨hg, ho⟩ := Tr.guard ho
  have hg : (spBlob (n, b, ())).length ≤ 4294967296 := of_decide_eq_true hg
  cases ho
  refine (runrwblob n b).trans ?_
  show _ = some (Out.ret ((spBlob (n, b, ()), ()), ()))
  unfold bodyrwblob
  cases n with
  | true => rfl
  | false =>
    have e : spBlob (false, b, ()) = spDig (spZig b.length) ++ b := rfl
    rw [e] at hg ⊢
    simp only [List.length_append] at hg
    rw [bif_false rfl, bif_true (by simp; omega)]

/-! ### leat/leatref07.body -/
noncomputable abbrev iorbody : Io := ⟨[dRow], [], [], [dO], none⟩
noncomputable def Frbody (d : iorbody.In) : Tr iorbody.Res := .ite (spRoom d.1.1) (.ret (.ret ((spBody d.1.1, ()), ()))) .no
noncomputable abbrev csrbody : List (Nat × Hc) := [(44, ioHd iorPut FrPut), (18, ioHd ioCat FCat), (63, ioHd iorwblob Frwblob)]
noncomputable def hdrbody : Hd := hdT csrbody
noncomputable abbrev lorbody_8 : Lo := ⟨⟨[.any, .one (.ptr 1 0), .any, .one (.onl 5 (Ty.int IntKind.u8) 7), .one (.hol (.int IntKind.i64)), .any, .any, .any, .any, .any, .any, .any, .any, .any, .any, .any, .any, .any, .any, .any, .any, .any, .any, .any, .any, .any, .any, .any, .any, .any, .any, .any, .any, .any, .any, .any, .any, .any, .any, .any, .any, .any, .any, .any, .any, .any, .any, .any, .any, .any, .any, .any, .any, .any, .any, .any, .any, .any, .any, .any, .any, .any, .any, .any, .any], [none, some [.hol (.int IntKind.i64), .hol (.int IntKind.i32), .hol .bool, .hol (.sl 5 (Ty.int IntKind.u8)), .hol .bool, .hol (.sl 5 (Ty.int IntKind.u8)), .hol (.sl 49 (Ty.str.prod ((Ty.bool.prod ((Ty.sl 5 (Ty.int IntKind.u8)).prod Ty.unit)).prod Ty.unit)))]]⟩, [(.exit 0, ⟨[.any, .any, .any, .one (.onl 5 (Ty.int IntKind.u8) 7), .any, .any, .any, .any, .any, .any, .any, .any, .any, .any, .any, .any, .any, .any, .any, .any, .any, .any, .any, .any, .any, .any, .any, .any, .any, .any, .any, .any, .any, .any, .any, .any, .any, .any, .any, .any, .any, .any, .any, .any, .any, .any, .any, .any, .any, .any, .any, .any, .any, .any, .any, .any, .any, .any, .any, .any, .any, .any, .any, .any, .any], []⟩)]⟩
-- Frbody_8 : lorbody_8.st.den → Tr (DenX lorbody_8.xs) | ((h7, (h8, ())), ((h9, (h10, (h11, (h12, (h13, (h14, (h15, ()))))))), ()))
noncomputable def Frbody_8 (d : lorbody_8.st.den) : Tr (DenX lorbody_8.xs) :=
  .ite (decide (d.1.2.1 = (0 : Int)) && decide (d.1.1.length + (spWHeads d.2.1.2.2.2.2.2.2.1).length ≤ 4294967296)) (.ret (.ret ((), ((d.1.1 ++ spWHeads d.2.1.2.2.2.2.2.2.1, ()), ())))) .no
noncomputable def lprbody : Lp := lpT [(8, loHd lorbody_8 Frbody_8)]
noncomputable def steprbody_8 {R : Type} (h7 : List Int) (h8 : Int) (h9 : Int) (h10 : Int) (h11 : Bool) (h12 : List Int) (h13 : Bool) (h14 : List Int) (h15 : List tHead.den) (next : List Int → Int → Int → Int → Bool → List Int → Bool → List Int → List tHead.den → Option R) (out : DenX lorbody_8.xs → Option R) : Option R := bif decide (h8 < (↑h15.length : Int)) then bif decide (0 ≤ h8) && decide (h8 < (↑h15.length : Int)) then bif decide (h7.length + (spDig (spZig (↑(List.length (h15.getD h8.toNat ([], (false, [], ()), ())).fst) : Int))).length ≤ 4294967296) then bif decide (List.length (h7 ++ spDig (spZig (↑(List.length (h15.getD h8.toNat ([], (false, [], ()), ())).fst) : Int))) + List.length (h15.getD h8.toNat ([], (false, [], ()), ())).fst ≤ 4294967296) then bif decide (0 ≤ h8) && decide (h8 < (↑h15.length : Int)) then bif decide ((spBlob ((h15.getD h8.toNat ([], (false, [], ()), ())).snd.fst.fst, (h15.getD h8.toNat ([], (false, [], ()), ())).snd.fst.snd.fst, ())).length ≤ 4294967296) then bif decide (List.length (h7 ++ spDig (spZig (↑(List.length (h15.getD h8.toNat ([], (false, [], ()), ())).fst) : Int)) ++ (h15.getD h8.toNat ([], (false, [], ()), ())).fst) + (spBlob ((h15.getD h8.toNat ([], (false, [], ()), ())).snd.fst.fst, (h15.getD h8.toNat ([], (false, [], ()), ())).snd.fst.snd.fst, ())).length ≤ 4294967296) then next (h7 ++ spDig (spZig (↑(List.length (h15.getD h8.toNat ([], (false, [], ()), ())).fst) : Int)) ++ (h15.getD h8.toNat ([], (false, [], ()), ())).fst ++ spBlob ((h15.getD h8.toNat ([], (false, [], ()), ())).snd.fst.fst, (h15.getD h8.toNat ([], (false, [], ()), ())).snd.fst.snd.fst, ())) (IntKind.i64.wrap (h8 + 1)) (h9) (h10) (h11) (h12) (h13) (h14) (h15) else none else none else none else none else none else none else out (.ret ((), ((h7, ()), ())))
noncomputable def itrbody_8 (n : Nat) (h7 : List Int) (h8 : Int) (h9 : Int) (h10 : Int) (h11 : Bool) (h12 : List Int) (h13 : Bool) (h14 : List Int) (h15 : List tHead.den) : Option (DenX lorbody_8.xs) := lpN tt hdrbody dr lprbody 0 Go.Proofs.Try.f42 (topL Go.Proofs.Try.f42 0) n (lorbody_8.st.mk' ((h7, (h8, ())), ((h9, (h10, (h11, (h12, (h13, (h14, (h15, ()))))))), ()))) (decX lorbody_8.xs)
theorem slrbody_8 (n : Nat) (h7 : List Int) (h8 : Int) (h9 : Int) (h10 : Int) (h11 : Bool) (h12 : List Int) (h13 : Bool) (h14 : List Int) (h15 : List tHead.den) : itrbody_8 (n + 1) h7 h8 h9 h10 h11 h12 h13 h14 h15 = steprbody_8 h7 h8 h9 h10 h11 h12 h13 h14 h15 (itrbody_8 n) some := by kernel_rfl
theorem looprbody (h9 h10 : Int) (h11 : Bool) (h12 : List Int) (h13 : Bool) (h14 : List Int) (hs : List Head) (hm : hs.length ≤ maxLen) : ∀ (k i : Nat) (o : List Int), i ≤ hs.length → hs.length < i + k → o.length + (spWHeads (hs.drop i)).length ≤ 4294967296 →
    itrbody_8 k o (i : Int) h9 h10 h11 h12 h13 h14 hs = some (.ret ((), ((o ++ spWHeads (hs.drop i), ()), ()))) := by
  intro k
  induction k with
  | zero => intro i o h1 h2; omega
  | succ k ih =>
    intro i o h1 h2 h3
    rw [slrbody_8]
    unfold steprbody_8
    by_cases h4 : i < hs.length
    · have e : (hs.getD (i : Int).toNat ([], (false, [], ()), ()) : Head) = hs[i] := getD_lt h4
      rw [List.drop_eq_getElem_cons h4, ← e] at h3 ⊢
      rw [wrap_succ h4 hm]
      generalize (hs.getD (i : Int).toNat ([], (false, [], ()), ()) : Head) = x at *
      obtain ⟨x1, ⟨x2, x3, ⟨⟩⟩, ⟨⟩⟩ := x
      have eW : spWHeads ((x1, (x2, x3, ()), ()) :: hs.drop (i + 1)) = spDig (spZig x1.length) ++ (x1 ++ spBlob (x2, x3, ())) ++ spWHeads (hs.drop (i + 1)) := by simp [spWHeads, spWHead]
      rw [eW] at h3 ⊢
      simp only [List.length_append] at h3
      rw [bif_true (by simpa using h4), bif_true (by simp [h4]), bif_true (by simp; omega), bif_true (by simp; omega), bif_true (by simp [h4]), bif_true (by simp; omega), bif_true (by simp; omega)]
      refine (ih (i + 1) _ h4 (by omega) (by simp only [List.length_append]; omega)).trans ?_
      simp only [List.append_assoc]
    · rw [List.drop_of_length_le (by omega)]
      rw [bif_false (by simpa using h4)]
      simp [spWHeads]
noncomputable def bodyrbody (a0 : Int) (a1 : Int) (a2 : Bool) (a3 : List Int) (a4 : Bool) (a5 : List Int) (a6 : List tHead.den) : Option iorbody.Res := bif decide ([0].length + (spDig (spZig a0)).length ≤ 4294967296) then bif decide (List.length ([0] ++ spDig (spZig a0)) + (spDig (spZig (IntKind.i64.wrap a1))).length ≤ 4294967296) then bif decide ((spBlob (a2, a3, ())).length ≤ 4294967296) then bif decide (List.length ([0] ++ spDig (spZig a0) ++ spDig (spZig (IntKind.i64.wrap a1))) + (spBlob (a2, a3, ())).length ≤ 4294967296) then bif decide ((spBlob (a4, a5, ())).length ≤ 4294967296) then bif decide (List.length ([0] ++ spDig (spZig a0) ++ spDig (spZig (IntKind.i64.wrap a1)) ++ spBlob (a2, a3, ())) + (spBlob (a4, a5, ())).length ≤ 4294967296) then bif decide (List.length ([0] ++ spDig (spZig a0) ++ spDig (spZig (IntKind.i64.wrap a1)) ++ spBlob (a2, a3, ()) ++ spBlob (a4, a5, ())) + (spDig (spZig (↑a6.length : Int))).length ≤ 4294967296) then (Frbody_8 (([0] ++ spDig (spZig a0) ++ spDig (spZig (IntKind.i64.wrap a1)) ++ spBlob (a2, a3, ()) ++ spBlob (a4, a5, ()) ++ spDig (spZig (↑a6.length : Int)), (0, ())), ((a0, (a1, (a2, (a3, (a4, (a5, (a6, ()))))))), ()))).run fun y => match y with | .ret ((), ((x26, ()), ())) => (some (Out.ret ((x26, ()), ()))) else none else none else none else none else none else none else none
theorem runrbody (a0 : Int) (a1 : Int) (a2 : Bool) (a3 : List Int) (a4 : Bool) (a5 : List Int) (a6 : List tHead.den) : Io.run tt hdrbody dr lprbody iorbody Go.Proofs.Try.f42 (((a0, a1, (a2, a3, ()), (a4, a5, ()), a6, ()), ()), ()) = bodyrbody a0 a1 a2 a3 a4 a5 a6 := by kernel_rfl
theorem okrbody : HcOk prog 42 (ioHd iorbody Frbody) := by
  have hcs : HcsOk prog csrbody := .cons okrPut (.cons okCat (.cons okrwblob .nil))
  refine fn_sound (n := 400) hm (cs := csrbody) hcs (lp := lprbody) (fn := Go.Proofs.Try.f42) (by kernel_rfl) (by kernel_rfl) (by kernel_rfl) iorbody
    (.step (h0 := loHd lorbody_8 Frbody_8) (by kernel_rfl) (loop_sound (n := 400) hm (cs := csrbody) hcs (lp := lprbody) (fn := Go.Proofs.Try.f42) (.done (by kernel_rfl)) lorbody_8 Frbody_8 ?_) (.done (by kernel_rfl))) Frbody ?_
  · rintro ⟨⟨(o : List Int), (i : Int), ⟨⟩⟩, ⟨(h9 : Int), (h10 : Int), (h11 : Bool), (h12 : List Int), (h13 : Bool), (h14 : List Int), (hs : List Head), ⟨⟩⟩, ⟨⟩⟩ y hw hy
    obtain ⟨hg, hy⟩ := Tr.guard hy
    simp only [Bool.and_eq_true, decide_eq_true_eq] at hg
    obtain ⟨hi, hl⟩ := hg
    have hi : i = 0 := hi
    subst hi
    refine ⟨hs.length + 1, (looprbody h9 h10 h11 h12 h13 h14 hs hw.2.1.2.2.2.2.2.2.1.1 _ 0 o (by omega) (by omega) hl).trans ?_⟩
    rw [← hy]
    rfl
  · rintro ⟨⟨⟨(a0 : Int), (a1 : Int), ⟨(a2 : Bool), (a3 : List Int), ⟨⟩⟩, ⟨(a4 : Bool), (a5 : List Int), ⟨⟩⟩, (a6 : List Head), ⟨⟩⟩, ⟨⟩⟩, ⟨⟩⟩ out hw ho
    obtain ⟨hg, ho⟩ := Tr.guard ho
    cases ho
    refine (runrbody a0 a1 a2 a3 a4 a5 a6).trans ?_
    have ha1 : inR .i32 a1 := hw.1.1.2.1
    have ha1 : -2147483648 ≤ a1 ∧ a1 ≤ 2147483647 := by simpa [inR, IntKind.min, IntKind.max, IntKind.signed, IntKind.bits] using ha1
    have hg : (spBody (a0, a1, (a2, a3, ()), (a4, a5, ()), a6, ())).length ≤ 4294967000 := of_decide_eq_true hg
    show _ = some (Out.ret ((spBody (a0, a1, (a2, a3, ()), (a4, a5, ()), a6, ()), ()), ()))
    have eb : spBody (a0, a1, (a2, a3, ()), (a4, a5, ()), a6, ()) = [0] ++ spDig (spZig a0) ++ spDig (spZig a1) ++ spBlob (a2, a3, ()) ++ spBlob (a4, a5, ()) ++ spDig (spZig a6.length) ++ spWHeads a6 := by
      simp [spBody]
    rw [eb] at hg ⊢
    simp only [List.length_append] at hg
    unfold bodyrbody
    rw [wrap_i64 (n := a1) (by omega) (by omega), bif_true (by simp; omega), bif_true (by simp; omega), bif_true (by simp; omega), bif_true (by simp; omega), bif_true (by simp; omega), bif_true (by simp; omega), bif_true (by simp; omega)]
    unfold Frbody_8
    simp only [Tr.run_ite, Tr.run_ret]
    rw [if_pos (by simp; omega)]

/-! ### leat/leatref07.Check -/
noncomputable abbrev iorCheck : Io := ⟨[dRow], [], [], [dI], none⟩
noncomputable def FrCheck (d : iorCheck.In) : Tr iorCheck.Res := .ite (spRoom d.1.1) (.ret (.ret ((spCheck d.1.1, ()), ()))) .no
noncomputable abbrev csrCheck : List (Nat × Hc) := [(40, ioHd iorbad Frbad), (41, ioHd iorUtf FrUtf), (42, ioHd iorbody Frbody)]
noncomputable def hdrCheck : Hd := hdT csrCheck
noncomputable abbrev lorCheck_9 : Lo := ⟨⟨[.any, .one (.ptr 1 0), .any, .one (.hol (.int IntKind.i64)), .any, .any, .any, .any, .any, .any, .any, .any, .any, .any, .any, .any, .any, .any, .any, .any, .any, .any, .any, .any, .any, .any, .any, .any, .any, .any, .any, .any, .any, .any, .any, .any, .any, .any, .any, .any, .any, .any, .any, .any, .any, .any, .any, .any, .any, .any, .any, .any], [none, some [.hol (.int IntKind.i64), .hol (.int IntKind.i32), .hol .bool, .hol (.sl 5 (Ty.int IntKind.u8)), .hol .bool, .hol (.sl 5 (Ty.int IntKind.u8)), .hol (.sl 49 (Ty.str.prod ((Ty.bool.prod ((Ty.sl 5 (Ty.int IntKind.u8)).prod Ty.unit)).prod Ty.unit)))]]⟩, [(.ret, ⟨[.any, .any, .one (.hol (.int IntKind.i64)), .any, .any, .any, .any, .any, .any, .any, .any, .any, .any, .any, .any, .any, .any, .any, .any, .any, .any, .any, .any, .any, .any, .any, .any, .any, .any, .any, .any, .any, .any, .any, .any, .any, .any, .any, .any, .any, .any, .any, .any, .any, .any, .any, .any, .any, .any, .any, .any, .any], []⟩), (.exit 0, ⟨[.any, .one (.ptr 1 0), .any, .any, .any, .any, .any, .any, .any, .any, .any, .any, .any, .any, .any, .any, .any, .any, .any, .any, .any, .any, .any, .any, .any, .any, .any, .any, .any, .any, .any, .any, .any, .any, .any, .any, .any, .any, .any, .any, .any, .any, .any, .any, .any, .any, .any, .any, .any, .any, .any, .any], [none, some [.hol (.int IntKind.i64), .hol (.int IntKind.i32), .hol .bool, .hol (.sl 5 (Ty.int IntKind.u8)), .hol .bool, .hol (.sl 5 (Ty.int IntKind.u8)), .hol (.sl 49 (Ty.str.prod ((Ty.bool.prod ((Ty.sl 5 (Ty.int IntKind.u8)).prod Ty.unit)).prod Ty.unit)))]]⟩)]⟩
-- FrCheck_9 : lorCheck_9.st.den → Tr (DenX lorCheck_9.xs) | ((h7, ()), ((h8, (h9, (h10, (h11, (h12, (h13, (h14, ()))))))), ()))
noncomputable def FrCheck_9 (d : lorCheck_9.st.den) : Tr (DenX lorCheck_9.xs) :=
  .ite (decide (d.1.1 = (0 : Int))) (.ite (decide (spHErr d.2.1.2.2.2.2.2.2.1 = (0 : Int))) (.ret (.pan (.ret ((), ((), (d.2.1, ())))))) (.ret (.ret ((), ((spHErr d.2.1.2.2.2.2.2.2.1, ()), ()))))) .no
noncomputable def lprCheck : Lp := lpT [(9, loHd lorCheck_9 FrCheck_9)]
noncomputable def steprCheck_9 {R : Type} (h7 : Int) (h8 : Int) (h9 : Int) (h10 : Bool) (h11 : List Int) (h12 : Bool) (h13 : List Int) (h14 : List tHead.den) (next : Int → Int → Int → Bool → List Int → Bool → List Int → List tHead.den → Option R) (out : DenX lorCheck_9.xs → Option R) : Option R := bif decide (h7 < (↑h14.length : Int)) then bif decide (0 ≤ h7) && decide (h7 < (↑h14.length : Int)) then bif !(spUtf (h14.getD h7.toNat ([], (false, [], ()), ())).fst).snd then out (.ret ((), ((6, ()), ()))) else bif decide (0 ≤ h7) && decide (h7 < (↑h14.length : Int)) then bif spBad ((h14.getD h7.toNat ([], (false, [], ()), ())).snd.fst.fst, (h14.getD h7.toNat ([], (false, [], ()), ())).snd.fst.snd.fst, ()) then out (.ret ((), ((70, ()), ()))) else next (IntKind.i64.wrap (h7 + 1)) (h8) (h9) (h10) (h11) (h12) (h13) (h14) else none else none else out (.pan (.ret ((), ((), ((h8, (h9, (h10, (h11, (h12, (h13, (h14, ()))))))), ())))))
noncomputable def itrCheck_9 (n : Nat) (h7 : Int) (h8 : Int) (h9 : Int) (h10 : Bool) (h11 : List Int) (h12 : Bool) (h13 : List Int) (h14 : List tHead.den) : Option (DenX lorCheck_9.xs) := lpN tt hdrCheck dr lprCheck 0 Go.Proofs.Try.f17 (topL Go.Proofs.Try.f17 0) n (lorCheck_9.st.mk' ((h7, ()), ((h8, (h9, (h10, (h11, (h12, (h13, (h14, ()))))))), ()))) (decX lorCheck_9.xs)
theorem slrCheck_9 (n : Nat) (h7 : Int) (h8 : Int) (h9 : Int) (h10 : Bool) (h11 : List Int) (h12 : Bool) (h13 : List Int) (h14 : List tHead.den) : itrCheck_9 (n + 1) h7 h8 h9 h10 h11 h12 h13 h14 = steprCheck_9 h7 h8 h9 h10 h11 h12 h13 h14 (itrCheck_9 n) some := by kernel_rfl
theorem looprCheck (h8 h9 : Int) (h10 : Bool) (h11 : List Int) (h12 : Bool) (h13 : List Int) (hs : List Head) (hm : hs.length ≤ maxLen) : ∀ (k i : Nat), i ≤ hs.length → hs.length < i + k →
    itrCheck_9 k (i : Int) h8 h9 h10 h11 h12 h13 hs = if spHErr (hs.drop i) = 0 then some (.pan (.ret ((), ((), ((h8, (h9, (h10, (h11, (h12, (h13, (hs, ()))))))), ()))))) else some (.ret ((), ((spHErr (hs.drop i), ()), ()))) := by
  intro k
  induction k with
  | zero => intro i h1 h2; omega
  | succ k ih =>
    intro i h1 h2
    rw [slrCheck_9]
    unfold steprCheck_9
    by_cases h3 : i < hs.length
    · have e : (hs.getD (i : Int).toNat ([], (false, [], ()), ()) : Head) = hs[i] := getD_lt h3
      rw [List.drop_eq_getElem_cons h3, ← e, wrap_succ h3 hm]
      generalize (hs.getD (i : Int).toNat ([], (false, [], ()), ()) : Head) = x
      obtain ⟨x1, ⟨x2, x3, ⟨⟩⟩, ⟨⟩⟩ := x
      rw [bif_true (by simpa using h3), bif_true (by simp [h3])]
      by_cases h4 : (spUtf x1).2 = false
      · have eE : spHErr ((x1, (x2, x3, ()), ()) :: hs.drop (i + 1)) = 6 := by unfold spHErr; rw [if_pos h4]
        rw [eE, bif_true (by simpa using h4)]
        rfl
      · rw [bif_false (by simpa using h4), bif_true (by simp [h3])]
        by_cases h5 : spBad (x2, x3, ()) = true
        · have eE : spHErr ((x1, (x2, x3, ()), ()) :: hs.drop (i + 1)) = 70 := by unfold spHErr; rw [if_neg h4, if_pos h5]
          rw [eE, bif_true h5]
          rfl
        · have eE : spHErr ((x1, (x2, x3, ()), ()) :: hs.drop (i + 1)) = spHErr (hs.drop (i + 1)) := by rw [spHErr, if_neg h4, if_neg h5]
          rw [eE, bif_false (by simpa using h5)]
          exact ih (i + 1) h3 (by omega)
    · rw [List.drop_of_length_le (by omega)]
      rw [bif_false (by simpa using h3)]
      rfl
noncomputable def bodyrCheck (a0 : Int) (a1 : Int) (a2 : Bool) (a3 : List Int) (a4 : Bool) (a5 : List Int) (a6 : List tHead.den) : Option iorCheck.Res := bif decide (a1 < 0) then some (Out.ret ((72, ()), ())) else bif spBad (a2, a3, ()) then some (Out.ret ((70, ()), ())) else bif spBad (a4, a5, ()) then some (Out.ret ((70, ()), ())) else bif decide (16 < (↑a6.length : Int)) then some (Out.ret ((9, ()), ())) else (FrCheck_9 ((0, ()), ((a0, (a1, (a2, (a3, (a4, (a5, (a6, ()))))))), ()))).run fun y => match y with | .ret ((), ((x32, ()), ())) => (some (Out.ret ((x32, ()), ()))) | .pan (.ret ((), ((), (x33, x34, x35, x36, x37, x38, x39, ()), ()))) => (bif spRoom (x33, x34, (x35, x36, ()), (x37, x38, ()), x39, ()) then bif decide (16384 < (↑(spBody (x33, x34, (x35, x36, ()), (x37, x38, ()), x39, ())).length : Int)) then some (Out.ret ((4, ()), ())) else some (Out.ret ((0, ()), ())) else none)
theorem runrCheck (a0 : Int) (a1 : Int) (a2 : Bool) (a3 : List Int) (a4 : Bool) (a5 : List Int) (a6 : List tHead.den) : Io.run tt hdrCheck dr lprCheck iorCheck Go.Proofs.Try.f17 (((a0, a1, (a2, a3, ()), (a4, a5, ()), a6, ()), ()), ()) = bodyrCheck a0 a1 a2 a3 a4 a5 a6 := by kernel_rfl
theorem okrCheck : HcOk prog 17 (ioHd iorCheck FrCheck) := by
  have hcs : HcsOk prog csrCheck := .cons okrbad (.cons okrUtf (.cons okrbody .nil))
  refine fn_sound (n := 400) hm (cs := csrCheck) hcs (lp := lprCheck) (fn := Go.Proofs.Try.f17) (by kernel_rfl) (by kernel_rfl) (by kernel_rfl) iorCheck
    (.step (h0 := loHd lorCheck_9 FrCheck_9) (by kernel_rfl) (loop_sound (n := 400) hm (cs := csrCheck) hcs (lp := lprCheck) (fn := Go.Proofs.Try.f17) (.done (by kernel_rfl)) lorCheck_9 FrCheck_9 ?_) (.done (by kernel_rfl))) FrCheck ?_
  · rintro ⟨⟨(i : Int), ⟨⟩⟩, ⟨(h8 : Int), (h9 : Int), (h10 : Bool), (h11 : List Int), (h12 : Bool), (h13 : List Int), (hs : List Head), ⟨⟩⟩, ⟨⟩⟩ y hw hy
    obtain ⟨hg, hy⟩ := Tr.guard hy
    have hi : i = 0 := of_decide_eq_true hg
    subst hi
    refine ⟨hs.length + 1, (looprCheck h8 h9 h10 h11 h12 h13 hs hw.2.1.2.2.2.2.2.2.1.1 _ 0 (by omega) (by omega)).trans ?_⟩
    rw [← hy]
    simp only [Tr.val_ite, decide_eq_true_eq, Tr.val_ret, List.drop_zero]
  · rintro ⟨⟨⟨(a0 : Int), (a1 : Int), ⟨(a2 : Bool), (a3 : List Int), ⟨⟩⟩, ⟨(a4 : Bool), (a5 : List Int), ⟨⟩⟩, (a6 : List Head), ⟨⟩⟩, ⟨⟩⟩, ⟨⟩⟩ out hw ho
    obtain ⟨hg, ho⟩ := Tr.guard ho
    cases ho
    refine (runrCheck a0 a1 a2 a3 a4 a5 a6).trans ?_
    have hg : spRoom (a0, a1, (a2, a3, ()), (a4, a5, ()), a6, ()) = true := hg
    unfold bodyrCheck FrCheck_9
    show _ = some (Out.ret ((spCheck (a0, a1, (a2, a3, ()), (a4, a5, ()), a6, ()), ()), ()))
    simp only [Tr.run_ite, Tr.run_ret]
    have eS : spShape (a0, a1, (a2, a3, ()), (a4, a5, ()), a6, ()) = if a1 < 0 then 72 else if spBad (a2, a3, ()) = true ∨ spBad (a4, a5, ()) = true then 70 else if 16 < (a6.length : Int) then 9 else spHErr a6 := rfl
    by_cases h1 : a1 < 0
    · rw [if_pos h1] at eS
      rw [bif_true (by simpa using h1)]
      unfold spCheck
      rw [eS]
      rfl
    rw [if_neg h1] at eS
    rw [bif_false (by simpa using h1)]
    by_cases h2 : spBad (a2, a3, ()) = true
    · rw [if_pos (.inl h2)] at eS
      rw [bif_true h2]
      unfold spCheck
      rw [eS]
      rfl
    rw [bif_false (by simpa using h2)]
    by_cases h3 : spBad (a4, a5, ()) = true
    · rw [if_pos (.inr h3)] at eS
      rw [bif_true h3]
      unfold spCheck
      rw [eS]
      rfl
    rw [if_neg (show ¬ (spBad (a2, a3, ()) = true ∨ spBad (a4, a5, ()) = true) from fun h => h.elim h2 h3)] at eS
    rw [bif_false (by simpa using h3)]
    by_cases h4 : 16 < (a6.length : Int)
    · rw [if_pos h4] at eS
      rw [bif_true (by simpa using h4)]
      unfold spCheck
      rw [eS]
      rfl
    rw [if_neg h4] at eS
    rw [bif_false (by simpa using h4), if_pos (by simp)]
    by_cases h5 : spHErr a6 = 0
    · rw [if_pos (decide_eq_true h5)]
      rw [bif_true hg]
      unfold spCheck
      rw [if_neg (notNe (eS.trans h5))]
      simp only [cond_eq_ite, decide_eq_true_eq]
      split
      · rfl
      · rfl
    · rw [if_neg (by simpa using h5)]
      unfold spCheck
      rw [eS, if_pos h5]

/-! ### leat/leatref07.Put -/
noncomputable abbrev iorRPut : Io := ⟨[dRow], [], [], [dL, dI], none⟩
noncomputable def FrRPut (d : iorRPut.In) : Tr iorRPut.Res := .ite (spRoom d.1.1) (.ret (.ret (((spPutR d.1.1).1, (spPutR d.1.1).2, ()), ()))) .no
noncomputable abbrev csrRPut : List (Nat × Hc) := [(17, ioHd iorCheck FrCheck), (42, ioHd iorbody Frbody), (44, ioHd iorPut FrPut), (18, ioHd ioCat FCat)]
noncomputable def hdrRPut : Hd := hdT csrRPut
noncomputable def lprRPut : Lp := lpT []

noncomputable def bodyrRPut (a0 : Int) (a1 : Int) (a2 : Bool) (a3 : List Int) (a4 : Bool) (a5 : List Int) (a6 : List tHead.den) : Option iorRPut.Res := bif spRoom (a0, a1, (a2, a3, ()), (a4, a5, ()), a6, ()) then bif spCheck (a0, a1, (a2, a3, ()), (a4, a5, ()), a6, ()) != 0 then some (Out.ret (([], spCheck (a0, a1, (a2, a3, ()), (a4, a5, ()), a6, ()), ()), ())) else bif spRoom (a0, a1, (a2, a3, ()), (a4, a5, ()), a6, ()) then bif decide ((spDig (spZig (↑(spBody (a0, a1, (a2, a3, ()), (a4, a5, ()), a6, ())).length : Int))).length + (spBody (a0, a1, (a2, a3, ()), (a4, a5, ()), a6, ())).length ≤ 4294967296) then some (Out.ret ((spDig (spZig (↑(spBody (a0, a1, (a2, a3, ()), (a4, a5, ()), a6, ())).length : Int)) ++ spBody (a0, a1, (a2, a3, ()), (a4, a5, ()), a6, ()), 0, ()), ())) else none else none else none
theorem runrRPut (a0 : Int) (a1 : Int) (a2 : Bool) (a3 : List Int) (a4 : Bool) (a5 : List Int) (a6 : List tHead.den) : Io.run tt hdrRPut dr lprRPut iorRPut Go.Proofs.Try.f27 (((a0, a1, (a2, a3, ()), (a4, a5, ()), a6, ()), ()), ()) = bodyrRPut a0 a1 a2 a3 a4 a5 a6 := by kernel_rfl
theorem okrRPut : HcOk prog 27 (ioHd iorRPut FrRPut) := by
  refine fn_sound (n := 400) hm (cs := csrRPut) (.cons okrCheck (.cons okrbody (.cons okrPut (.cons okCat .nil)))) (lp := lprRPut) (fn := Go.Proofs.Try.f27) (by kernel_rfl) (by kernel_rfl) (by kernel_rfl) iorRPut (.done (by kernel_rfl)) FrRPut ?_
  rintro ⟨⟨⟨(a0 : Int), (a1 : Int), ⟨(a2 : Bool), (a3 : List Int), ⟨⟩⟩, ⟨(a4 : Bool), (a5 : List Int), ⟨⟩⟩, (a6 : List Head), ⟨⟩⟩, ⟨⟩⟩, ⟨⟩⟩ out hw ho
  obtain ⟨hg, ho⟩ := Tr.guard ho
  cases ho
  refine (runrRPut a0 a1 a2 a3 a4 a5 a6).trans ?_
  show _ = some (Out.ret (((spPutR (a0, a1, (a2, a3, ()), (a4, a5, ()), a6, ())).1, (spPutR (a0, a1, (a2, a3, ()), (a4, a5, ()), a6, ())).2, ()), ()))
  have hg : spRoom (a0, a1, (a2, a3, ()), (a4, a5, ()), a6, ()) = true := hg
  unfold bodyrRPut
  generalize ((a0, a1, (a2, a3, ()), (a4, a5, ()), a6, ()) : RowD) = r at *
  have hl : (spBody r).length ≤ 4294967000 := of_decide_eq_true hg
  rw [bif_true hg, bif_true hg]
  by_cases h1 : spCheck r = 0
  · have e2 : spPutR r = (spDig (spZig (spBody r).length) ++ spBody r, 0) := by unfold spPutR; rw [if_pos h1]
    have := spDig_len (spZig (spBody r).length)
    rw [e2, bif_false (by simpa using h1), bif_true (by simp; omega)]
  · have e2 : spPutR r = ([], spCheck r) := by unfold spPutR; rw [if_neg h1]
    rw [e2, bif_true (by simpa using h1)]

end
end Go.Proofs.Ytnppjkijhcampaa.Sym

/- leatlaw07: alive, RecGets. -/
namespace Go.Proofs.Ytnppjkijhcampaa.Sym
open Go
set_option linter.unusedSimpArgs false
set_option linter.unusedVariables false
noncomputable section

/-! ### leat/leatlaw07.alive -/
noncomputable abbrev iolalive : Io := ⟨[], [], [], [dB], none⟩
noncomputable def Flalive (d : iolalive.In) : Tr iolalive.Res := .ret (.ret ((true, ()), ()))
noncomputable abbrev cslalive : List (Nat × Hc) := [(15, ioHd iokPut FkPut), (11, ioHd iokGet FkGet), (25, ioHd ioSame FSame)]
noncomputable def hdlalive : Hd := hdT cslalive
noncomputable def lplalive : Lp := lpT []

noncomputable def bodylalive : Option iolalive.Res := some (Out.ret ((decide (List.take (IntKind.i32.wrap (spZag (spVal (List.take ((↑0 : Int) + 1).toNat (List.drop (1 + (↑0 : Int) + 1 + (↑0 : Int) + 1 + (↑0 : Int) + 1).toNat (List.take (IntKind.i32.wrap (spZag (spVal (List.take ((↑0 : Int) + 1).toNat (List.drop (Int.toNat 0) [16, 0, 0, 0, 1, 4, 104, 105, 0])) % 18446744073709551616))).toNat (List.drop (0 + (↑0 : Int) + 1).toNat [16, 0, 0, 0, 1, 4, 104, 105, 0])))) % 18446744073709551616))).toNat (List.drop (1 + (↑0 : Int) + 1 + (↑0 : Int) + 1 + (↑0 : Int) + 1 + (↑0 : Int) + 1).toNat (List.take (IntKind.i32.wrap (spZag (spVal (List.take ((↑0 : Int) + 1).toNat (List.drop (Int.toNat 0) [16, 0, 0, 0, 1, 4, 104, 105, 0])) % 18446744073709551616))).toNat (List.drop (0 + (↑0 : Int) + 1).toNat [16, 0, 0, 0, 1, 4, 104, 105, 0]))) = List.map (fun (c : UInt8) => (↑c.toNat : Int)) [UInt8.ofBitVec (BitVec.ofFin (Fin.mk (104 % 2 ^ 8) (Nat.mod_lt 104 (BitVec.ofNat._proof_1 8)))), UInt8.ofBitVec (BitVec.ofFin (Fin.mk (105 % 2 ^ 8) (Nat.mod_lt 105 (BitVec.ofNat._proof_1 8))))]), ()), ()))
theorem runlalive : Io.run tt hdlalive dr lplalive iolalive Go.Proofs.Try.f9 ((), ()) = bodylalive  := by kernel_rfl
theorem oklalive : HcOk prog 9 (ioHd iolalive Flalive) := by
  refine fn_sound (n := 400) hm (cs := cslalive) (.cons okkPut (.cons okkGet (.cons okSame .nil))) (lp := lplalive) (fn := Go.Proofs.Try.f9) (by kernel_rfl) (by kernel_rfl) (by kernel_rfl) iolalive (.done (by kernel_rfl)) Flalive ?_
  rintro ⟨⟨⟩, ⟨⟩⟩ out hw ho
  cases ho
  refine runlalive.trans ?_
  kernel_rfl

/-! ### leat/leatlaw07.RecGets -/
noncomputable abbrev iolGets : Io := ⟨[dL, dI], [], [], [dB], none⟩
noncomputable def FlGets (d : iolGets.In) : Tr iolGets.Res := .ite (decide (d.1.1.length ≤ 4294967000)) (.ret (.ret ((true, ()), ()))) .no
noncomputable abbrev cslGets : List (Nat × Hc) := [(9, ioHd iolalive Flalive), (10, ioHd ioWide FWide), (11, ioHd iokGet FkGet), (12, ioHd iorRGet FrRGet), (13, ioHd iorAlike FrAlike), (14, ioHd ioIntact FIntact)]
noncomputable def hdlGets : Hd := hdT cslGets
noncomputable def lplGets : Lp := lpT []

noncomputable def bodylGets (a0 : List Int) (a1 : Int) : Option iolGets.Res := bif decide (a0.length ≤ 4294967000) then bif decide (0 ≤ 0) && (decide (0 ≤ (↑a0.length : Int)) && decide ((↑a0.length : Int) ≤ (↑(List.length (a0 ++ spMarks)) : Int))) then bif (spRec (List.drop (Int.toNat 0) (List.take (↑a0.length : Int).toNat (a0 ++ spMarks))) a1).snd.snd == (spRec a0 a1).snd.snd then bif (spRec (List.drop (Int.toNat 0) (List.take (↑a0.length : Int).toNat (a0 ++ spMarks))) a1).snd.fst == (spRec a0 a1).snd.fst then bif spEqR ((spRec (List.drop (Int.toNat 0) (List.take (↑a0.length : Int).toNat (a0 ++ spMarks))) a1).fst.fst, (spRec (List.drop (Int.toNat 0) (List.take (↑a0.length : Int).toNat (a0 ++ spMarks))) a1).fst.snd.fst, ((spRec (List.drop (Int.toNat 0) (List.take (↑a0.length : Int).toNat (a0 ++ spMarks))) a1).fst.snd.snd.fst.fst, (spRec (List.drop (Int.toNat 0) (List.take (↑a0.length : Int).toNat (a0 ++ spMarks))) a1).fst.snd.snd.fst.snd.fst, ()), ((spRec (List.drop (Int.toNat 0) (List.take (↑a0.length : Int).toNat (a0 ++ spMarks))) a1).fst.snd.snd.snd.fst.fst, (spRec (List.drop (Int.toNat 0) (List.take (↑a0.length : Int).toNat (a0 ++ spMarks))) a1).fst.snd.snd.snd.fst.snd.fst, ()), (spRec (List.drop (Int.toNat 0) (List.take (↑a0.length : Int).toNat (a0 ++ spMarks))) a1).fst.snd.snd.snd.snd.fst, ()) ((spRec a0 a1).fst.fst, (spRec a0 a1).fst.snd.fst, ((spRec a0 a1).fst.snd.snd.fst.fst, (spRec a0 a1).fst.snd.snd.fst.snd.fst, ()), ((spRec a0 a1).fst.snd.snd.snd.fst.fst, (spRec a0 a1).fst.snd.snd.snd.fst.snd.fst, ()), (spRec a0 a1).fst.snd.snd.snd.snd.fst, ()) then bif decide (a0.length ≤ 4294967000) then some (Out.ret ((decide (a0 ++ spMarks = a0 ++ spMarks), ()), ())) else none else some (Out.ret ((false, ()), ())) else some (Out.ret ((false, ()), ())) else some (Out.ret ((false, ()), ())) else none else none
theorem runlGets (a0 : List Int) (a1 : Int) : Io.run tt hdlGets dr lplGets iolGets Go.Proofs.Try.f3 ((a0, a1, ()), ()) = bodylGets a0 a1 := by kernel_rfl
theorem oklGets : HcOk prog 3 (ioHd iolGets FlGets) := by
  refine fn_sound (n := 400) hm (cs := cslGets) (.cons oklalive (.cons okWide (.cons okkGet (.cons okrRGet (.cons okrAlike (.cons okIntact .nil)))))) (lp := lplGets) (fn := Go.Proofs.Try.f3) (by kernel_rfl) (by kernel_rfl) (by kernel_rfl) iolGets (.done (by kernel_rfl)) FlGets ?_
  rintro ⟨⟨(b : List Int), (p : Int), ⟨⟩⟩, ⟨⟩⟩ out hw ho
  obtain ⟨hg, ho⟩ := Tr.guard ho
  have hg : b.length ≤ 4294967000 := of_decide_eq_true hg
  cases ho
  refine (runlGets b p).trans ?_
  unfold bodylGets
  have e : List.drop (Int.toNat 0) (List.take (b.length : Int).toNat (b ++ spMarks)) = b := by simp
  rw [e, bif_true (by simpa using hg), bif_true (by simp; omega)]
  have h1 : spEqR (spRec b p).1 (spRec b p).1 = true := spEqR_iff.2 rfl
  rw [bif_true (by simp), bif_true (by simp), bif_true h1, bif_true (by simpa using hg)]
  simp

end
end Go.Proofs.Ytnppjkijhcampaa.Sym

/- What rec.Get reads, rec.Put writes: the forms are unique. -/
namespace Go.Proofs.Ytnppjkijhcampaa.Sym
open Go
set_option linter.unusedSimpArgs false
set_option linter.unusedVariables false
noncomputable section

/-- A number's bytes: each but the last has its high bit, the last isn't 0 behind others. -/
def Can : Bool → List Int → Prop
  | _, [] => False
  | f, [c] => 0 ≤ c ∧ c < 128 ∧ (f = true → c ≠ 0)
  | _, c :: d :: l => 128 ≤ c ∧ c ≤ 255 ∧ Can true (d :: l)
theorem Can.pos : ∀ {l : List Int}, Can true l → 1 ≤ spVal l
  | [], h => h.elim
  | [c], h => by
    obtain ⟨h1, h2, h3⟩ := h
    have := h3 rfl
    simp only [spVal]
    omega
  | c :: d :: l, h => by
    have := Can.pos h.2.2
    rw [spVal]
    omega
theorem Can.dig : ∀ {l : List Int} (n : Nat) (f : Bool), Can f l → l.length ≤ n + 1 → spHi n (spVal l) ++ [spLo n (spVal l)] = l
  | [], n, f, h, hl => h.elim
  | [c], n, f, h, hl => by
    obtain ⟨h1, h2, h3⟩ := h
    have e : spVal [c] = c := by simp only [spVal]; omega
    rw [e]
    cases n with
    | zero => rfl
    | succ n =>
      have : ¬ 127 < c := by omega
      simp [spHi, spLo, this]
  | c :: d :: l, n, f, h, hl => by
    obtain ⟨h1, h2, h3⟩ := h
    have hp := h3.pos
    cases n with
    | zero => simp at hl
    | succ n =>
      have ih := Can.dig n true h3 (by simpa using hl)
      have e : spVal (c :: d :: l) = c % 128 + 128 * spVal (d :: l) := rfl
      have e1 : (c % 128 + 128 * spVal (d :: l)) / 128 = spVal (d :: l) := by omega
      have e2 : (c % 128 + 128 * spVal (d :: l)) % 128 + 128 = c := by omega
      have e3 : 127 < c % 128 + 128 * spVal (d :: l) := by omega
      rw [e, spHi, spLo, if_pos e3, if_pos e3, e1, e2, List.cons_append, ih]
theorem pow128_pos : ∀ j : Nat, (1 : Int) ≤ 128 ^ j
  | 0 => by simp
  | j + 1 => by
    have := pow128_pos j
    rw [Int.pow_succ]
    omega
/-- What is read is such bytes, and their number isn't too large. -/
theorem spRd_can (most : Nat) (top : Int) (h0 : 0 ≤ top) (ht : top < 128) : ∀ (l : List Int) (i : Nat), (∀ c ∈ l, 0 ≤ c ∧ c ≤ 255) → i < most → (spRd most top l i).2 = 0 →
    ∃ m : Nat, (spRd most top l i).1 = i + m ∧ m < l.length ∧ i + m < most ∧ Can (decide (0 < i)) (l.take (m + 1)) ∧ spVal (l.take (m + 1)) < 128 ^ (most - 1 - i) * (top + 1)
  | [], i, hc, hi, h => by simp [spRd] at h
  | c :: l, i, hc, hi, h => by
    have hcc := hc c (by simp)
    simp only [spRd] at h ⊢
    split at h
    · cases h
    rename_i h1
    rw [if_neg h1]
    split at h
    · rename_i h2
      rw [if_pos h2]
      split at h
      · cases h
      rename_i h3
      rw [if_neg h3]
      refine ⟨0, by simp, by simp, by omega, ?_, ?_⟩
      · refine ⟨hcc.1, h2, fun hf hz => h3 ⟨hz, by simpa using hf⟩⟩
      · have e : spVal ((c :: l).take (0 + 1)) = c := by simp only [List.take_succ_cons, List.take_zero, spVal]; omega
        rw [e]
        by_cases hm : i + 1 = most
        · rw [show most - 1 - i = 0 by omega]
          have : ¬ top < c := fun h => h1 ⟨hm, h⟩
          simp; omega
        · obtain ⟨j, hj⟩ : ∃ j, most - 1 - i = j + 1 := ⟨most - 2 - i, by omega⟩
          rw [hj, Int.pow_succ]
          have hp : (1 : Int) ≤ 128 ^ j := pow128_pos j
          have : (1 : Int) * 128 * 1 ≤ 128 ^ j * 128 * (top + 1) := Int.mul_le_mul (Int.mul_le_mul_of_nonneg_right hp (by omega)) (by omega) (by omega) (Int.mul_nonneg (by omega) (by omega))
          omega
    · rename_i h2
      rw [if_neg h2]
      have hne : i + 1 < most := by
        rcases Nat.lt_or_ge (i + 1) most with h | h'
        · exact h
        · exact absurd ⟨by omega, by omega⟩ h1
      obtain ⟨m, g1, g2, g3, g4, g5⟩ := spRd_can most top h0 ht l (i + 1) (fun c hc' => hc c (by simp [hc'])) hne h
      refine ⟨m + 1, by rw [g1]; push_cast; omega, by simp; omega, by omega, ?_, ?_⟩
      · obtain ⟨d, l', rfl⟩ : ∃ d l', l = d :: l' := by
          cases l with
          | nil => simp at g2
          | cons d l' => exact ⟨d, l', rfl⟩
        rw [List.take_succ_cons, List.take_succ_cons] at *
        refine ⟨by omega, hcc.2, ?_⟩
        simpa using g4
      · rw [List.take_succ_cons, spVal]
        obtain ⟨j, hj⟩ : ∃ j, most - 1 - i = j + 1 := ⟨most - 2 - i, by omega⟩
        rw [show most - 1 - (i + 1) = j by omega] at g5
        rw [hj, Int.pow_succ]
        have e : (128 : Int) ^ j * 128 * (top + 1) = 128 * (128 ^ j * (top + 1)) := by
          rw [Int.mul_comm (128 ^ j) 128, Int.mul_assoc]
        rw [e]
        omega

/-- A piece of the bytes. -/
noncomputable def pc (b : List Int) (p q : Int) : List Int := (b.take q.toNat).drop p.toNat
theorem pc_app {b : List Int} {p q r : Int} (h0 : 0 ≤ p) (h1 : p ≤ q) (h2 : q ≤ r) : pc b p q ++ pc b q r = pc b p r := by
  unfold pc
  obtain ⟨P, rfl⟩ := toNat_of h0
  obtain ⟨Q, rfl⟩ := toNat_of (show 0 ≤ q by omega)
  obtain ⟨R, rfl⟩ := toNat_of (show 0 ≤ r by omega)
  simp only [Int.toNat_natCast]
  have e : b.take Q = (b.take R).take Q := by rw [List.take_take, Nat.min_eq_left (by omega)]
  rw [e, List.drop_take]
  have e2 : (b.take R).drop Q = ((b.take R).drop P).drop (Q - P) := by rw [List.drop_drop, show P + (Q - P) = Q by omega]
  rw [e2, List.take_append_drop]
theorem pc_take {b : List Int} {q n : Int} (h0 : 0 ≤ q) (h1 : 0 ≤ n) : (b.drop q.toNat).take n.toNat = pc b q (q + n) := by
  unfold pc
  rw [List.drop_take, show (q + n).toNat - q.toNat = n.toNat by omega]
theorem pc_len {b : List Int} {p q : Int} (h0 : 0 ≤ p) (h1 : p ≤ q) (h2 : q ≤ b.length) : ((pc b p q).length : Int) = q - p := by
  unfold pc
  simp only [List.length_drop, List.length_take]
  omega
def Bytes (b : List Int) : Prop := ∀ c ∈ b, 0 ≤ c ∧ c ≤ 255
theorem spGet_dig {most : Nat} {top : Int} (h0 : 0 ≤ top) (ht : top < 128) (hm : 0 < most) (hm' : most ≤ 10) (hB : 128 ^ (most - 1) * (top + 1) ≤ 18446744073709551616) {b : List Int} (hb : Bytes b) {p : Int} (h : (spGet most top b p).2.2 = 0) :
    spDig (spGet most top b p).1 = pc b p (spGet most top b p).2.1 ∧ 0 ≤ (spGet most top b p).1 ∧ (spGet most top b p).1 < 128 ^ (most - 1) * (top + 1) := by
  obtain ⟨k1, k2, k3⟩ := spGet_ok h
  unfold spGet at h k2 k3 ⊢
  by_cases hp : p < 0 ∨ (b.length : Int) < p
  · rw [if_pos hp] at h; cases h
  rw [if_neg hp] at h k2 k3 ⊢
  by_cases hr : (spRd most top (b.drop p.toNat) 0).2 = 0
  rotate_left
  · rw [if_neg hr] at h; exact absurd h hr
  rw [if_pos hr] at k2 k3 ⊢
  obtain ⟨m, g1, g2, g3, g4, g5⟩ := spRd_can most top h0 ht (b.drop p.toNat) 0 (fun c hc => hb c (List.mem_of_mem_drop hc)) hm hr
  rw [g1] at k2 k3 ⊢
  simp only at k2 k3 ⊢
  have e1 : ((((0 : Nat) : Int) + (m : Int)) + 1).toNat = m + 1 := by omega
  rw [e1]
  have hpos := (spVal_lt ((b.drop p.toNat).take (m + 1))).1
  rw [Nat.sub_zero] at g5
  rw [Int.emod_eq_of_lt hpos (by omega)]
  refine ⟨?_, hpos, g5⟩
  have hd := Can.dig 10 _ g4 (by rw [List.length_take]; omega)
  unfold spDig
  rw [hd]
  unfold pc
  rw [List.drop_take, show (p + (((0 : Nat) : Int) + m) + 1).toNat - p.toNat = m + 1 by omega]
theorem inR_i32 {n : Int} : inR .i32 n ↔ -2147483648 ≤ n ∧ n ≤ 2147483647 := by simp [inR, IntKind.min, IntKind.max, IntKind.signed, IntKind.bits]
theorem zig_zag {u : Int} (h : 0 ≤ u) : spZig (spZag u) = u := by
  unfold spZig spZag
  split <;> split <;> omega
theorem spNum_dig {b : List Int} (hb : Bytes b) {p : Int} (h : (spNum b p).2.2 = 0) : spDig (spZig (spNum b p).1) = pc b p (spNum b p).2.1 := by
  obtain ⟨h1, h2, h3⟩ := spGet_dig (most := 5) (top := 15) (by decide) (by decide) (by decide) (by decide) (by decide) hb (show (spGet 5 15 b p).2.2 = 0 from h)
  have h3 : (spGet 5 15 b p).1 < 4294967296 := h3
  have e : (spNum b p).1 = spZag (spGet 5 15 b p).1 := by
    show IntKind.wrap .i32 (spZag (spGet 5 15 b p).1) = _
    refine wrap_id (k := .i32) (inR_i32.2 ?_)
    unfold spZag
    split <;> omega
  rw [e, zig_zag h2]
  exact h1
theorem spLong_dig {b : List Int} (hb : Bytes b) {p : Int} (h : (spGet 10 1 b p).2.2 = 0) : spDig (spZig (spZag (spGet 10 1 b p).1)) = pc b p (spGet 10 1 b p).2.1 := by
  obtain ⟨h1, h2, h3⟩ := spGet_dig (most := 10) (top := 1) (by decide) (by decide) (by decide) (by decide) (by decide) hb h
  rw [zig_zag h2]
  exact h1

/-- What spTake comes to, if there is no error. -/
theorem spTake_ok {b : List Int} {p l : Int} (hl : -1 ≤ l) (h : (spTake b p l).2.2 = 0) : (spNum b p).2.2 = 0 ∧
    ((l < 0 ∧ (spNum b p).1 = -1 ∧ spTake b p l = ((true, [], ()), (spNum b p).2.1, 0)) ∨
     (0 ≤ (spNum b p).1 ∧ (spNum b p).2.1 + (spNum b p).1 ≤ b.length ∧ spTake b p l = ((false, pc b (spNum b p).2.1 ((spNum b p).2.1 + (spNum b p).1), ()), (spNum b p).2.1 + (spNum b p).1, 0))) := by
  unfold spTake at h ⊢
  by_cases h0 : (spNum b p).2.2 = 0
  rotate_left
  · rw [if_pos h0] at h; exact absurd h h0
  have hk := spNum_ok h0
  rw [if_neg (notNe h0)] at h ⊢
  by_cases h1 : (spNum b p).1 < l
  · rw [if_pos h1] at h; cases h
  rw [if_neg h1] at h ⊢
  by_cases h2 : (spNum b p).1 < 0
  · rw [if_pos h2]
    exact ⟨h0, .inl ⟨by omega, by omega, rfl⟩⟩
  rw [if_neg h2] at h ⊢
  by_cases h3 : (b.length : Int) - (spNum b p).2.1 < (spNum b p).1
  · rw [if_pos h3] at h; cases h
  rw [if_neg h3, pc_take (by omega) (by omega)]
  exact ⟨h0, .inr ⟨by omega, by omega, rfl⟩⟩
theorem spTake_only {b : List Int} (hb : Bytes b) {p l : Int} (hl : -1 ≤ l) (h : (spTake b p l).2.2 = 0) :
    spBlob (spTake b p l).1 = pc b p (spTake b p l).2.1 ∧ spBad (spTake b p l).1 = false ∧ 0 ≤ p ∧ p < (spTake b p l).2.1 ∧ (spTake b p l).2.1 ≤ b.length ∧ (0 ≤ l → (spTake b p l).1.1 = false) := by
  obtain ⟨h0, h1 | h1⟩ := spTake_ok hl h
  · obtain ⟨h1, h2, e⟩ := h1
    have hk := spNum_ok h0
    have hd := spNum_dig hb h0
    rw [e]
    refine ⟨?_, by simp [spBad], hk.1, hk.2.1, hk.2.2, fun h => by omega⟩
    rw [h2] at hd
    exact hd
  · obtain ⟨h1, h2, e⟩ := h1
    have hk := spNum_ok h0
    have hd := spNum_dig hb h0
    rw [e]
    refine ⟨?_, by simp [spBad], hk.1, by simp only; omega, by simpa using h2, fun _ => rfl⟩
    show spDig (spZig ((pc b (spNum b p).2.1 ((spNum b p).2.1 + (spNum b p).1)).length : Int)) ++ pc b (spNum b p).2.1 ((spNum b p).2.1 + (spNum b p).1) = _
    rw [pc_len (by omega) (by omega) h2, show (spNum b p).2.1 + (spNum b p).1 - (spNum b p).2.1 = (spNum b p).1 by omega, hd, pc_app hk.1 (by omega) (by omega)]

theorem spHeadsN_only {b : List Int} (hb : Bytes b) : ∀ (n : Nat) (o : List Head) (p : Int), 0 ≤ p → p ≤ b.length → (spHeadsN b n o p).2.2 = 0 →
    ∃ hs : List Head, (spHeadsN b n o p).1 = o ++ hs ∧ hs.length = n ∧ spWHeads hs = pc b p (spHeadsN b n o p).2.1 ∧ spHErr hs = 0 ∧ p ≤ (spHeadsN b n o p).2.1 ∧ (spHeadsN b n o p).2.1 ≤ b.length
  | 0, o, p, h0, h1, h => by
    refine ⟨[], by simp [spHeadsN], rfl, ?_, rfl, Int.le_refl _, h1⟩
    show [] = pc b p p
    unfold pc
    rw [List.drop_of_length_le (by simp; omega)]
  | n + 1, o, p, h0, h1, h => by
    rw [spHeadsN_succ] at h ⊢
    by_cases hH : (spHead b p).2.2 = 0
    rotate_left
    · rw [if_pos hH] at h; exact absurd h hH
    rw [if_neg (notNe hH)] at h ⊢
    -- the header
    unfold spHead at hH
    by_cases a1 : (spTake b p 0).2.2 = 0
    rotate_left
    · rw [if_pos a1] at hH; exact absurd hH a1
    rw [if_neg (notNe a1)] at hH
    by_cases a2 : (spUtf (spTake b p 0).1.2.1).2 = false
    · rw [if_pos a2] at hH; cases hH
    rw [if_neg a2] at hH
    have hH : (spTake b (spTake b p 0).2.1 (-1)).2.2 = 0 := hH
    have eH : spHead b p = (((spTake b p 0).1.2.1, (spTake b (spTake b p 0).2.1 (-1)).1, ()), (spTake b (spTake b p 0).2.1 (-1)).2.1, (spTake b (spTake b p 0).2.1 (-1)).2.2) := by
      unfold spHead; rw [if_neg (notNe a1), if_neg a2]
    rw [eH] at h ⊢
    simp only at h ⊢
    obtain ⟨k1, k2, k3, k4, k5, k6⟩ := spTake_only hb (by decide) a1
    obtain ⟨q1, q2, q3, q4, q5, q6⟩ := spTake_only hb (by decide) hH
    have k6 := k6 (Int.le_refl 0)
    obtain ⟨hs, g1, g2, g3, g4, g5, g6⟩ := spHeadsN_only hb n _ _ (show 0 ≤ (spTake b (spTake b p 0).2.1 (-1)).2.1 by omega) q5 h
    refine ⟨((spTake b p 0).1.2.1, (spTake b (spTake b p 0).2.1 (-1)).1, ()) :: hs, by rw [g1]; simp, by simp [g2], ?_, ?_, by omega, g6⟩
    · have e1 : spWHeads (((spTake b p 0).1.2.1, (spTake b (spTake b p 0).2.1 (-1)).1, ()) :: hs) = (spDig (spZig (spTake b p 0).1.2.1.length) ++ (spTake b p 0).1.2.1) ++ spBlob (spTake b (spTake b p 0).2.1 (-1)).1 ++ spWHeads hs := by
        simp [spWHeads, spWHead]
      have e2 : spDig (spZig (spTake b p 0).1.2.1.length) ++ (spTake b p 0).1.2.1 = pc b p (spTake b p 0).2.1 := by
        rw [← k1]
        unfold spBlob
        rw [if_neg (by rw [k6]; decide)]
      rw [e1, e2, q1, g3, pc_app k3 (by omega) (by omega), pc_app k3 (by omega) (by omega)]
    · unfold spHErr
      rw [if_neg a2, if_neg (by rw [q2]; decide)]
      exact g4
theorem spHeads_only {b : List Int} (hb : Bytes b) {p : Int} (h : (spHeads b p).2.2 = 0) :
    spDig (spZig (spHeads b p).1.length) ++ spWHeads (spHeads b p).1 = pc b p (spHeads b p).2.1 ∧ spHErr (spHeads b p).1 = 0 ∧ ((spHeads b p).1.length : Int) ≤ 16 ∧ 0 ≤ p ∧ p < (spHeads b p).2.1 ∧ (spHeads b p).2.1 ≤ b.length := by
  unfold spHeads at h ⊢
  by_cases c5 : (spNum b p).2.2 = 0
  rotate_left
  · rw [if_pos c5] at h; exact absurd h c5
  rw [if_neg (notNe c5)] at h ⊢
  by_cases c6 : (spNum b p).1 < 0
  · rw [if_pos c6] at h; cases h
  rw [if_neg c6] at h ⊢
  by_cases c7 : 16 < (spNum b p).1
  · rw [if_pos c7] at h; cases h
  rw [if_neg c7] at h ⊢
  have hk := spNum_ok c5
  obtain ⟨hs, g1, g2, g3, g4, g5, g6⟩ := spHeadsN_only hb (spNum b p).1.toNat [] (spNum b p).2.1 (by omega) hk.2.2 h
  rw [List.nil_append] at g1
  have hl : (hs.length : Int) = (spNum b p).1 := by omega
  rw [g1, hl, spNum_dig hb c5, g3, pc_app hk.1 (by omega) g5]
  exact ⟨rfl, g4, by omega, hk.1, by omega, g6⟩
/-- A row that is read is well-formed, and its bytes are the only ones. -/
theorem spRow_only {b : List Int} (hb : Bytes b) (h : (spRow b).2 = 0) : spBody (spRow b).1 = b ∧ spShape (spRow b).1 = 0 := by
  unfold spRow at h ⊢
  by_cases h0 : b.length = 0
  · rw [if_pos h0] at h; cases h
  rw [if_neg h0] at h ⊢
  by_cases h1 : b.getD 0 0 = 0
  rotate_left
  · rw [if_pos h1] at h; cases h
  rw [if_neg (notNe h1)] at h ⊢
  by_cases h2 : (spGet 10 1 b 1).2.2 = 0
  rotate_left
  · rw [if_pos h2] at h; exact absurd h h2
  rw [if_neg (notNe h2)] at h ⊢
  have d1 := spLong_dig hb h2
  have k1 := spGet_ok h2
  generalize spZag (spGet 10 1 b 1).1 = v1 at *
  generalize (spGet 10 1 b 1).2.1 = q1 at *
  by_cases c1 : (spNum b q1).2.2 = 0
  rotate_left
  · rw [if_pos c1] at h; exact absurd h c1
  rw [if_neg (notNe c1)] at h ⊢
  by_cases c2 : (spNum b q1).1 < 0
  · rw [if_pos c2] at h; cases h
  rw [if_neg c2] at h ⊢
  have d2 := spNum_dig hb c1
  have k2 := spNum_ok c1
  generalize (spNum b q1).1 = v2 at *
  generalize (spNum b q1).2.1 = q2 at *
  by_cases c3 : (spTake b q2 (-1)).2.2 = 0
  rotate_left
  · rw [if_pos c3] at h; exact absurd h c3
  rw [if_neg (notNe c3)] at h ⊢
  obtain ⟨d3, b3, k3⟩ := spTake_only hb (by decide) c3
  generalize (spTake b q2 (-1)).1 = B1 at *
  generalize (spTake b q2 (-1)).2.1 = q3 at *
  by_cases c4 : (spTake b q3 (-1)).2.2 = 0
  rotate_left
  · rw [if_pos c4] at h; exact absurd h c4
  rw [if_neg (notNe c4)] at h ⊢
  obtain ⟨d4, b4, k4⟩ := spTake_only hb (by decide) c4
  generalize (spTake b q3 (-1)).1 = B2 at *
  generalize (spTake b q3 (-1)).2.1 = q4 at *
  by_cases c5 : (spHeads b q4).2.2 = 0
  rotate_left
  · rw [if_pos c5] at h; exact absurd h c5
  rw [if_neg (notNe c5)] at h ⊢
  obtain ⟨d5, e5, n5, k5⟩ := spHeads_only hb c5
  generalize (spHeads b q4).1 = hs at *
  generalize (spHeads b q4).2.1 = q5 at *
  by_cases c6 : q5 < (b.length : Int)
  · rw [if_pos c6] at h; cases h
  rw [if_neg c6]
  refine ⟨?_, ?_⟩
  · show 0 :: (spDig (spZig v1) ++ (spDig (spZig v2) ++ (spBlob B1 ++ (spBlob B2 ++ (spDig (spZig hs.length) ++ spWHeads hs))))) = b
    rw [d1, d2, d3, d4, d5, pc_app (by omega) (by omega) (by omega), pc_app (by omega) (by omega) (by omega), pc_app (by omega) (by omega) (by omega), pc_app (by omega) (by omega) (by omega), show q5 = b.length by omega]
    unfold pc
    rw [Int.toNat_natCast, List.take_length]
    obtain ⟨c, l, rfl⟩ : ∃ c l, b = c :: l := by
      cases b with
      | nil => exact absurd rfl h0
      | cons c l => exact ⟨c, l, rfl⟩
    have h1 : c = 0 := h1
    rw [h1]
    rfl
  · show (if v2 < 0 then 72 else if spBad B1 = true ∨ spBad B2 = true then 70 else if 16 < (hs.length : Int) then 9 else spHErr hs) = 0
    rw [if_neg c2, if_neg (by rw [b3, b4]; simp), if_neg (by omega), e5]
theorem spRec_only {b : List Int} (hb : Bytes b) {p : Int} (h : (spRec b p).2.2 = 0) :
    0 ≤ p ∧ p < (spRec b p).2.1 ∧ (spRec b p).2.1 ≤ b.length ∧ spCheck (spRec b p).1 = 0 ∧ spPutR (spRec b p).1 = (pc b p (spRec b p).2.1, 0) ∧ spRoom (spRec b p).1 = true := by
  unfold spRec at h ⊢
  by_cases c1 : (spNum b p).2.2 = 0
  rotate_left
  · rw [if_pos c1] at h; exact absurd h c1
  rw [if_neg (notNe c1)] at h ⊢
  by_cases c2 : (spNum b p).1 < 0
  · rw [if_pos c2] at h; cases h
  rw [if_neg c2] at h ⊢
  by_cases c3 : 16384 < (spNum b p).1
  · rw [if_pos c3] at h; cases h
  rw [if_neg c3] at h ⊢
  by_cases c4 : (b.length : Int) - (spNum b p).2.1 < (spNum b p).1
  · rw [if_pos c4] at h; cases h
  rw [if_neg c4] at h ⊢
  have d1 := spNum_dig hb c1
  have k1 := spNum_ok c1
  generalize (spNum b p).1 = n at *
  generalize (spNum b p).2.1 = q at *
  rw [pc_take (by omega) (by omega)] at h ⊢
  by_cases c5 : (spRow (pc b q (q + n))).2 = 0
  rotate_left
  · rw [if_pos c5] at h; exact absurd h c5
  rw [if_neg (notNe c5)] at h ⊢
  have hb2 : Bytes (pc b q (q + n)) := fun c hc => hb c (List.mem_of_mem_take (List.mem_of_mem_drop hc))
  obtain ⟨e1, e2⟩ := spRow_only hb2 c5
  have hl := pc_len (b := b) (p := q) (q := q + n) (by omega) (by omega) (by omega)
  generalize (spRow (pc b q (q + n))).1 = r at *
  have hbl : ((spBody r).length : Int) = n := by rw [e1]; omega
  have hc : spCheck r = 0 := by
    unfold spCheck
    rw [if_neg (notNe e2), if_neg (by omega)]
  refine ⟨k1.1, by simp only; omega, by simp only; omega, hc, ?_, ?_⟩
  · unfold spPutR
    rw [if_pos hc, hbl, d1, e1, pc_app k1.1 (by omega) (by omega)]
  · unfold spRoom
    rw [decide_eq_true_eq]
    omega

/-! ### leat/leatlaw07.RecOnly -/
noncomputable abbrev iolOnly : Io := ⟨[dL, dI], [], [], [dB], none⟩
noncomputable def FlOnly (d : iolOnly.In) : Tr iolOnly.Res := .ite (decide (d.1.1.length ≤ 4294967000)) (.ret (.ret ((true, ()), ()))) .no
noncomputable abbrev cslOnly : List (Nat × Hc) := [(9, ioHd iolalive Flalive), (23, ioHd ioCopy FCopy), (11, ioHd iokGet FkGet), (13, ioHd iorAlike FrAlike), (15, ioHd iokPut FkPut), (24, ioHd iokCheck FkCheck), (25, ioHd ioSame FSame), (19, ioHd ioPiece FPiece)]
noncomputable def hdlOnly : Hd := hdT cslOnly
noncomputable def lplOnly : Lp := lpT []

noncomputable def bodylOnly (a0 : List Int) (a1 : Int) : Option iolOnly.Res := bif decide (a0.length ≤ 4294967296) then bif (spRec a0 a1).snd.snd != 0 then bif (spRec a0 a1).snd.fst == 0 then some (Out.ret ((spEqR ((spRec a0 a1).fst.fst, (spRec a0 a1).fst.snd.fst, ((spRec a0 a1).fst.snd.snd.fst.fst, (spRec a0 a1).fst.snd.snd.fst.snd.fst, ()), ((spRec a0 a1).fst.snd.snd.snd.fst.fst, (spRec a0 a1).fst.snd.snd.snd.fst.snd.fst, ()), (spRec a0 a1).fst.snd.snd.snd.snd.fst, ()) (0, 0, (false, [], ()), (false, [], ()), [], ()), ()), ())) else some (Out.ret ((false, ()), ())) else bif spRoom ((spRec a0 a1).fst.fst, (spRec a0 a1).fst.snd.fst, ((spRec a0 a1).fst.snd.snd.fst.fst, (spRec a0 a1).fst.snd.snd.fst.snd.fst, ()), ((spRec a0 a1).fst.snd.snd.snd.fst.fst, (spRec a0 a1).fst.snd.snd.snd.fst.snd.fst, ()), (spRec a0 a1).fst.snd.snd.snd.snd.fst, ()) then bif decide (a1 < 0) then some (Out.ret ((false, ()), ())) else bif decide ((spRec a0 a1).snd.fst ≤ a1) then some (Out.ret ((false, ()), ())) else bif decide ((↑a0.length : Int) < (spRec a0 a1).snd.fst) then some (Out.ret ((false, ()), ())) else bif spRoom ((spRec a0 a1).fst.fst, (spRec a0 a1).fst.snd.fst, ((spRec a0 a1).fst.snd.snd.fst.fst, (spRec a0 a1).fst.snd.snd.fst.snd.fst, ()), ((spRec a0 a1).fst.snd.snd.snd.fst.fst, (spRec a0 a1).fst.snd.snd.snd.fst.snd.fst, ()), (spRec a0 a1).fst.snd.snd.snd.snd.fst, ()) then bif spCheck ((spRec a0 a1).fst.fst, (spRec a0 a1).fst.snd.fst, ((spRec a0 a1).fst.snd.snd.fst.fst, (spRec a0 a1).fst.snd.snd.fst.snd.fst, ()), ((spRec a0 a1).fst.snd.snd.snd.fst.fst, (spRec a0 a1).fst.snd.snd.snd.fst.snd.fst, ()), (spRec a0 a1).fst.snd.snd.snd.snd.fst, ()) == 0 then bif (spPutR ((spRec a0 a1).fst.fst, (spRec a0 a1).fst.snd.fst, ((spRec a0 a1).fst.snd.snd.fst.fst, (spRec a0 a1).fst.snd.snd.fst.snd.fst, ()), ((spRec a0 a1).fst.snd.snd.snd.fst.fst, (spRec a0 a1).fst.snd.snd.snd.fst.snd.fst, ()), (spRec a0 a1).fst.snd.snd.snd.snd.fst, ())).snd == 0 then bif decide (a0.length ≤ 4294967296) then some (Out.ret ((decide ((spPutR ((spRec a0 a1).fst.fst, (spRec a0 a1).fst.snd.fst, ((spRec a0 a1).fst.snd.snd.fst.fst, (spRec a0 a1).fst.snd.snd.fst.snd.fst, ()), ((spRec a0 a1).fst.snd.snd.snd.fst.fst, (spRec a0 a1).fst.snd.snd.snd.fst.snd.fst, ()), (spRec a0 a1).fst.snd.snd.snd.snd.fst, ())).fst = List.drop a1.toNat (List.take (spRec a0 a1).snd.fst.toNat a0)), ()), ())) else none else some (Out.ret ((false, ()), ())) else some (Out.ret ((false, ()), ())) else none else none else none
theorem runlOnly (a0 : List Int) (a1 : Int) : Io.run tt hdlOnly dr lplOnly iolOnly Go.Proofs.Try.f6 ((a0, a1, ()), ()) = bodylOnly a0 a1 := by kernel_rfl
theorem spRec_err {b : List Int} {p : Int} (h : (spRec b p).2.2 ≠ 0) : (spRec b p).1 = spNone ∧ (spRec b p).2.1 = 0 := by
  unfold spRec at h ⊢
  split
  · exact ⟨rfl, rfl⟩
  split
  · exact ⟨rfl, rfl⟩
  split
  · exact ⟨rfl, rfl⟩
  split
  · exact ⟨rfl, rfl⟩
  split
  · exact ⟨rfl, rfl⟩
  rename_i h1 h2 h3 h4 h5
  rw [if_neg h1, if_neg h2, if_neg h3, if_neg h4, if_neg h5] at h
  exact absurd rfl h
theorem bytesOf {b : List Int} (h : Ty.wf bs b) : Bytes b := fun c hc => by
  have := h.2 c hc
  exact inR_u8.1 this
theorem oklOnly : HcOk prog 6 (ioHd iolOnly FlOnly) := by
  refine fn_sound (n := 400) hm (cs := cslOnly) (.cons oklalive (.cons okCopy (.cons okkGet (.cons okrAlike (.cons okkPut (.cons okkCheck (.cons okSame (.cons okPiece .nil)))))))) (lp := lplOnly) (fn := Go.Proofs.Try.f6) (by kernel_rfl) (by kernel_rfl) (by kernel_rfl) iolOnly (.done (by kernel_rfl)) FlOnly ?_
  rintro ⟨⟨(b : List Int), (p : Int), ⟨⟩⟩, ⟨⟩⟩ out hw ho
  obtain ⟨hg, ho⟩ := Tr.guard ho
  have hg : b.length ≤ 4294967000 := of_decide_eq_true hg
  cases ho
  refine (runlOnly b p).trans ?_
  have hb : Bytes b := bytesOf hw.1.1
  change (bif decide (b.length ≤ 4294967296) then bif (spRec b p).2.2 != 0 then bif (spRec b p).2.1 == 0 then some (Out.ret ((spEqR (spRec b p).1 spNone, ()), ())) else some (Out.ret ((false, ()), ())) else
    bif spRoom (spRec b p).1 then bif decide (p < 0) then some (Out.ret ((false, ()), ())) else bif decide ((spRec b p).2.1 ≤ p) then some (Out.ret ((false, ()), ())) else bif decide ((b.length : Int) < (spRec b p).2.1) then some (Out.ret ((false, ()), ())) else
      bif spRoom (spRec b p).1 then bif spCheck (spRec b p).1 == 0 then bif (spPutR (spRec b p).1).2 == 0 then bif decide (b.length ≤ 4294967296) then some (Out.ret ((decide ((spPutR (spRec b p).1).1 = pc b p (spRec b p).2.1), ()), ())) else none else some (Out.ret ((false, ()), ())) else some (Out.ret ((false, ()), ())) else none else none else none) = _
  rw [bif_true (by simp; omega)]
  by_cases h : (spRec b p).2.2 = 0
  · obtain ⟨h1, h2, h3, h4, h5, h6⟩ := spRec_only hb h
    rw [bif_false (by simpa using h), h6, bif_true rfl, bif_false (by simp; omega), bif_false (by simp; omega), bif_false (by simp; omega), bif_true rfl, h4, h5]
    have hd : b.length ≤ 4294967296 := by omega
    simp [hd]
  · obtain ⟨h1, h2⟩ := spRec_err h
    have h3 : spEqR spNone spNone = true := spEqR_iff.2 rfl
    rw [bif_true (by simpa using h), h1, h2, h3]
    rfl

end
end Go.Proofs.Ytnppjkijhcampaa.Sym

/- What rec.Put writes, rec.Get reads. -/
namespace Go.Proofs.Ytnppjkijhcampaa.Sym
open Go
set_option linter.unusedSimpArgs false
set_option linter.unusedVariables false
noncomputable section

theorem dig_can : ∀ (n : Nat) (u : Int) (f : Bool), 0 ≤ u → u < 128 ^ (n + 1) → (f = true → 1 ≤ u) → Can f (spHi n u ++ [spLo n u]) ∧ spVal (spHi n u ++ [spLo n u]) = u ∧ (spHi n u ++ [spLo n u]).length ≤ n + 1
  | 0, u, f, h0, h1, hf => by
    have h1 : u < 128 := h1
    refine ⟨⟨h0, h1, fun h => by have := hf h; show u ≠ 0; omega⟩, ?_, by simp [spHi]⟩
    show u % 128 + 128 * 0 = u
    omega
  | n + 1, u, f, h0, h1, hf => by
    by_cases h : 127 < u
    · rw [Int.pow_succ] at h1
      obtain ⟨g1, g2, g3⟩ := dig_can n (u / 128) true (by omega) (Int.ediv_lt_of_lt_mul (by omega) h1) (fun _ => by omega)
      have e : spHi (n + 1) u ++ [spLo (n + 1) u] = (u % 128 + 128) :: (spHi n (u / 128) ++ [spLo n (u / 128)]) := by
        rw [spHi, spLo, if_pos h, if_pos h, List.cons_append]
      rw [e]
      obtain ⟨d, l, hl⟩ : ∃ d l, spHi n (u / 128) ++ [spLo n (u / 128)] = d :: l := by
        cases hx : spHi n (u / 128) ++ [spLo n (u / 128)] with
        | nil => simp at hx
        | cons d l => exact ⟨d, l, rfl⟩
      rw [hl] at g1 g2 g3 ⊢
      refine ⟨⟨by omega, by omega, g1⟩, ?_, by simp at g3 ⊢; omega⟩
      show (u % 128 + 128) % 128 + 128 * spVal (d :: l) = u
      rw [g2]
      omega
    · have e : spHi (n + 1) u ++ [spLo (n + 1) u] = [u] := by
        rw [spHi, spLo, if_neg h, if_neg h]; rfl
      rw [e]
      refine ⟨⟨h0, by omega, fun h => by have := hf h; omega⟩, ?_, by simp⟩
      show u % 128 + 128 * 0 = u
      omega
theorem spDig_can {u : Int} (h0 : 0 ≤ u) (h : u < 18446744073709551616) : Can false (spDig u) ∧ spVal (spDig u) = u ∧ 0 < (spDig u).length :=
  have g := dig_can 10 u false h0 (Int.lt_of_lt_of_le h (by decide)) (fun h => by cases h)
  ⟨g.1, g.2.1, by simp [spDig]⟩
theorem spRd_of_can (most : Nat) (top : Int) (ht : top < 128) : ∀ (l rest : List Int) (i : Nat), Can (decide (0 < i)) l → i < most → spVal l < 128 ^ (most - 1 - i) * (top + 1) → spRd most top (l ++ rest) i = (((i + l.length - 1 : Nat) : Int), 0)
  | [], rest, i, hc, _, _ => hc.elim
  | [c], rest, i, hc, hi, hv => by
    obtain ⟨h1, h2, h3⟩ := hc
    have e : spVal [c] = c := by simp only [spVal]; omega
    rw [e] at hv
    simp only [List.cons_append, List.nil_append, spRd]
    have hn : ¬ (i + 1 = most ∧ top < c) := by
      rintro ⟨h4, h5⟩
      rw [show most - 1 - i = 0 by omega] at hv
      simp at hv
      omega
    have hz : ¬ (c = 0 ∧ 0 < i) := fun h => h3 (by simpa using h.2) h.1
    rw [if_neg hn, if_pos h2, if_neg hz]
    simp
  | c :: d :: l, rest, i, hc, hi, hv => by
    obtain ⟨h1, h2, h3⟩ := hc
    have hp := h3.pos
    have e : spVal (c :: d :: l) = c % 128 + 128 * spVal (d :: l) := rfl
    rw [e] at hv
    have hne : i + 1 < most := by
      rcases Nat.lt_or_ge (i + 1) most with h | h
      · exact h
      · rw [show most - 1 - i = 0 by omega] at hv
        simp at hv
        omega
    obtain ⟨j, hj⟩ : ∃ j, most - 1 - i = j + 1 := ⟨most - 2 - i, by omega⟩
    rw [hj, Int.pow_succ] at hv
    have e2 : (128 : Int) ^ j * 128 * (top + 1) = 128 * (128 ^ j * (top + 1)) := by rw [Int.mul_comm (128 ^ j) 128, Int.mul_assoc]
    rw [e2] at hv
    have ih := spRd_of_can most top ht (d :: l) rest (i + 1) (by simpa using h3) hne (by rw [show most - 1 - (i + 1) = j by omega]; omega)
    rw [List.cons_append, spRd, if_neg (fun h => by omega), if_neg (by omega), ih]
    simp only [List.length_cons, Prod.mk.injEq, and_true]
    congr 1
    omega
/-- A beginning of such bytes isn't enough. -/
theorem spRd_cut (most : Nat) (top : Int) : ∀ (l y : List Int) (i : Nat), y ≠ [] → (∃ f, Can f (l ++ y)) → i + (l ++ y).length ≤ most → spRd most top l i = (0, 1)
  | [], y, i, hy, _, _ => rfl
  | c :: l, y, i, hy, ⟨f, hc⟩, hl => by
    have hc' : 128 ≤ c ∧ c ≤ 255 ∧ Can true (l ++ y) := by
      cases hx : l ++ y with
      | nil => simp at hx; exact absurd hx.2 hy
      | cons d l' =>
        rw [List.cons_append, hx] at hc
        exact hc
    have hlen : 0 < y.length := List.length_pos_iff.2 hy
    simp only [List.cons_append, List.length_cons, List.length_append] at hl
    rw [spRd, if_neg (fun h => by omega), if_neg (by omega)]
    exact spRd_cut most top l y (i + 1) hy ⟨true, hc'.2.2⟩ (by rw [List.length_append]; omega)

/-- X stands in b from place p on. -/
def Has (b : List Int) (p : Int) (X : List Int) : Prop := 0 ≤ p ∧ p ≤ b.length ∧ ∃ rest, b.drop p.toNat = X ++ rest
theorem Has.left {b : List Int} {p : Int} {X Y : List Int} (h : Has b p (X ++ Y)) : Has b p X := by
  obtain ⟨h0, h1, rest, h2⟩ := h
  exact ⟨h0, h1, Y ++ rest, by rw [h2, List.append_assoc]⟩
theorem Has.len {b : List Int} {p : Int} {X : List Int} (h : Has b p X) : p + X.length ≤ b.length := by
  obtain ⟨h0, h1, rest, h2⟩ := h
  have := congrArg List.length h2
  simp only [List.length_drop, List.length_append] at this
  omega
theorem Has.right {b : List Int} {p : Int} {X Y : List Int} (h : Has b p (X ++ Y)) : Has b (p + X.length) Y := by
  have hl := h.left.len
  obtain ⟨h0, h1, rest, h2⟩ := h
  refine ⟨by omega, hl, rest, ?_⟩
  rw [show (p + X.length).toNat = p.toNat + X.length by omega, ← List.drop_drop, h2, List.append_assoc, List.drop_left]
theorem Has.take {b : List Int} {p : Int} {X : List Int} (h : Has b p X) : (b.drop p.toNat).take X.length = X := by
  obtain ⟨h0, h1, rest, h2⟩ := h
  rw [h2, List.take_left]

theorem spGet_at {most : Nat} {top : Int} (ht : top < 128) (hm : 0 < most) (hB : 128 ^ (most - 1) * (top + 1) ≤ 18446744073709551616) {b : List Int} {p u : Int} (h0 : 0 ≤ u) (hu : u < 128 ^ (most - 1) * (top + 1)) (h : Has b p (spDig u)) :
    spGet most top b p = (u, p + (spDig u).length, 0) := by
  obtain ⟨hp, hl, rest, hd⟩ := h
  obtain ⟨c1, c2, c3⟩ := spDig_can h0 (by omega)
  have hr := spRd_of_can most top ht (spDig u) rest 0 c1 hm (by rw [c2]; simpa using hu)
  have e1 : ((0 + (spDig u).length - 1 : Nat) : Int) = (spDig u).length - 1 := by omega
  rw [e1] at hr
  unfold spGet
  rw [if_neg (by omega), hd, hr, if_pos rfl]
  simp only
  rw [show ((spDig u).length - 1 + 1 : Int).toNat = (spDig u).length by omega, List.take_left, c2, Int.emod_eq_of_lt h0 (by omega), show p + ((spDig u).length - 1) + 1 = p + (spDig u).length by omega]
theorem zag_zig {v : Int} : spZag (spZig v) = v := by
  unfold spZig spZag
  split <;> split <;> omega
theorem spNum_at {b : List Int} {p v : Int} (h1 : -2147483648 ≤ v) (h2 : v ≤ 2147483647) (h : Has b p (spDig (spZig v))) : spNum b p = (v, p + (spDig (spZig v)).length, 0) := by
  have hz : 0 ≤ spZig v ∧ spZig v < 4294967296 := by unfold spZig; split <;> omega
  have e := spGet_at (most := 5) (top := 15) (by decide) (by decide) (by decide) hz.1 hz.2 h
  unfold spNum
  rw [e]
  simp only
  rw [zag_zig, wrap_id (k := .i32) (inR_i32.2 ⟨h1, h2⟩)]
theorem spLong_at {b : List Int} {p v : Int} (h1 : -9223372036854775808 ≤ v) (h2 : v ≤ 9223372036854775807) (h : Has b p (spDig (spZig v))) : spGet 10 1 b p = (spZig v, p + (spDig (spZig v)).length, 0) := by
  have hz : 0 ≤ spZig v ∧ spZig v < 18446744073709551616 := by unfold spZig; split <;> omega
  exact spGet_at (most := 10) (top := 1) (by decide) (by decide) (by decide) hz.1 hz.2 h
theorem spTake_at {b : List Int} {p l : Int} {B : Blob} (hb : spBad B = false) (hl : B.2.1.length ≤ 2147483647) (hll : l = -1 ∨ l = 0 ∧ B.1 = false) (h : Has b p (spBlob B)) : spTake b p l = (B, p + (spBlob B).length, 0) := by
  obtain ⟨n, x, ⟨⟩⟩ := B
  cases n with
  | true =>
    have hx : x = [] := by
      cases x with
      | nil => rfl
      | cons c l => simp [spBad] at hb
    subst hx
    have hl1 : l = -1 := by rcases hll with h | ⟨_, h⟩; exact h; cases h
    have e : spBlob (true, [], ()) = spDig (spZig (-1)) := rfl
    rw [e] at h ⊢
    have hn := spNum_at (by decide) (by decide) h
    unfold spTake
    rw [hn, hl1]
    rfl
  | false =>
    have e : spBlob (false, x, ()) = spDig (spZig x.length) ++ x := rfl
    rw [e] at h ⊢
    have hl : x.length ≤ 2147483647 := hl
    have hn := spNum_at (by omega) (by omega) h.left
    have hx := h.right
    have hle := hx.len
    unfold spTake
    rw [hn]
    simp only
    rw [if_neg (by simp), if_neg (by rcases hll with h | ⟨h, _⟩ <;> omega), if_neg (by omega), if_neg (by omega), Int.toNat_natCast, hx.take]
    simp only [List.length_append, Prod.mk.injEq, and_true, true_and]
    omega
theorem spHeadsN_at {b : List Int} : ∀ (hs : List Head) (o : List Head) (p : Int), spHErr hs = 0 → (∀ h ∈ hs, h.1.length ≤ 2147483647 ∧ h.2.1.2.1.length ≤ 2147483647) → Has b p (spWHeads hs) →
    spHeadsN b hs.length o p = (o ++ hs, p + (spWHeads hs).length, 0)
  | [], o, p, _, _, _ => by simp [spHeadsN, spWHeads]
  | h :: hs, o, p, he, hl, hH => by
    obtain ⟨k, v, ⟨⟩⟩ := h
    have hkl := hl _ (by simp : (k, v, ()) ∈ (k, v, ()) :: hs)
    unfold spHErr at he
    by_cases h1 : (spUtf k).2 = false
    · rw [if_pos h1] at he; cases he
    rw [if_neg h1] at he
    by_cases h2 : spBad v = true
    · rw [if_pos h2] at he; cases he
    rw [if_neg h2] at he
    have eW : spWHeads ((k, v, ()) :: hs) = spBlob (false, k, ()) ++ (spBlob v ++ spWHeads hs) := by
      simp [spWHeads, spWHead, spBlob]
    rw [eW] at hH ⊢
    have t1 := spTake_at (l := 0) (B := (false, k, ())) (by simp [spBad]) hkl.1 (.inr ⟨rfl, rfl⟩) hH.left
    have t2 := spTake_at (l := -1) (by simpa using h2) hkl.2 (.inl rfl) hH.right.left
    have eH : spHead b p = ((k, v, ()), p + (spBlob (false, k, ())).length + (spBlob v).length, 0) := by
      unfold spHead
      rw [t1]
      simp only
      rw [t2, if_neg (by simp), if_neg h1]
    rw [List.length_cons, spHeadsN_succ, eH, if_neg (by simp)]
    simp only
    rw [spHeadsN_at hs _ _ he (fun h hh => hl h (by simp [hh])) (by have := hH.right.right; simpa [Int.add_assoc] using this)]
    simp only [List.append_assoc, List.singleton_append, Prod.mk.injEq, and_true, true_and, List.length_append]
    push_cast
    omega

/-- Data as a row of the program has them. -/
structure RowOk (r : RowD) : Prop where
  time : -9223372036854775808 ≤ r.1 ∧ r.1 ≤ 9223372036854775807
  off : -2147483648 ≤ r.2.1 ∧ r.2.1 ≤ 2147483647
theorem spRow_at {r : RowD} (hr : RowOk r) (hs : spShape r = 0) (hl : (spBody r).length ≤ 16384) : spRow (spBody r) = (r, 0) := by
  obtain ⟨a0, a1, B1, B2, hs0, ⟨⟩⟩ := r
  have eS : spShape (a0, a1, B1, B2, hs0, ()) = if a1 < 0 then 72 else if spBad B1 = true ∨ spBad B2 = true then 70 else if 16 < (hs0.length : Int) then 9 else spHErr hs0 := rfl
  rw [eS] at hs
  by_cases s1 : a1 < 0
  · rw [if_pos s1] at hs; cases hs
  rw [if_neg s1] at hs
  by_cases s2 : spBad B1 = true ∨ spBad B2 = true
  · rw [if_pos s2] at hs; cases hs
  rw [if_neg s2] at hs
  by_cases s3 : 16 < (hs0.length : Int)
  · rw [if_pos s3] at hs; cases hs
  rw [if_neg s3] at hs
  have sb1 : spBad B1 = false := by cases h : spBad B1 with | false => rfl | true => exact absurd (.inl h) s2
  have sb2 : spBad B2 = false := by cases h : spBad B2 with | false => rfl | true => exact absurd (.inr h) s2
  have eb : spBody (a0, a1, B1, B2, hs0, ()) = [0] ++ (spDig (spZig a0) ++ (spDig (spZig a1) ++ (spBlob B1 ++ (spBlob B2 ++ (spDig (spZig hs0.length) ++ spWHeads hs0))))) := rfl
  generalize hb : spBody (a0, a1, B1, B2, hs0, ()) = b at *
  have hblob : ∀ B : Blob, B.2.1.length ≤ (spBlob B).length ∨ spBad B = true ∨ B.2.1 = [] := by
    rintro ⟨n, x, ⟨⟩⟩
    cases n with
    | true =>
      cases x with
      | nil => exact .inr (.inr rfl)
      | cons c l => exact .inr (.inl (by simp [spBad]))
    | false => exact .inl (by show x.length ≤ (spDig (spZig x.length) ++ x).length; simp)
  have hll := hl
  rw [eb] at hll
  simp only [List.length_append] at hll
  have hl1 : B1.2.1.length ≤ 2147483647 := by
    rcases hblob B1 with h | h | h
    · omega
    · rw [sb1] at h; cases h
    · rw [h]; simp
  have hl2 : B2.2.1.length ≤ 2147483647 := by
    rcases hblob B2 with h | h | h
    · omega
    · rw [sb2] at h; cases h
    · rw [h]; simp
  have hlh : ∀ h ∈ hs0, h.1.length ≤ 2147483647 ∧ h.2.1.2.1.length ≤ 2147483647 := by
    intro h hh
    have hlen : (spWHead h).length ≤ (spWHeads hs0).length := by
      obtain ⟨s, t, rfl⟩ := List.append_of_mem hh
      simp [spWHeads]
      omega
    have hw : (spWHead h).length = (spDig (spZig h.1.length)).length + (h.1.length + (spBlob h.2.1).length) := by simp [spWHead]
    refine ⟨by omega, ?_⟩
    rcases hblob h.2.1 with h' | h' | h'
    · omega
    · have : ∀ (l : List Head), h ∈ l → spHErr l = 0 → spBad h.2.1 = false := by
        intro l
        induction l with
        | nil => intro hm; cases hm
        | cons x l ih =>
          intro hm he
          unfold spHErr at he
          split at he
          · cases he
          split at he
          · cases he
          rename_i n1 n2
          rcases List.mem_cons.1 hm with rfl | hm
          · simpa using n2
          · exact ih hm he
      rw [this hs0 hh hs] at h'
      cases h'
    · rw [h']; simp
  have H : Has b 0 ([0] ++ (spDig (spZig a0) ++ (spDig (spZig a1) ++ (spBlob B1 ++ (spBlob B2 ++ (spDig (spZig hs0.length) ++ spWHeads hs0)))))) := ⟨by omega, by omega, [], by rw [← eb]; simp⟩
  have H1 := H.right
  have e1 := spLong_at hr.time.1 hr.time.2 H1.left
  have H2 := H1.right
  have e2 := spNum_at hr.off.1 hr.off.2 H2.left
  have H3 := H2.right
  have e3 := spTake_at (l := -1) sb1 hl1 (.inl rfl) H3.left
  have H4 := H3.right
  have e4 := spTake_at (l := -1) sb2 hl2 (.inl rfl) H4.left
  have H5 := H4.right
  have e5 := spNum_at (by omega) (by omega) H5.left
  have H6 := H5.right
  have e6 := spHeadsN_at hs0 [] _ hs hlh H6
  have eh : spHeads b (0 + ((([0] : List Int).length : Nat) : Int) + (spDig (spZig a0)).length + (spDig (spZig a1)).length + (spBlob B1).length + (spBlob B2).length) = (hs0, (b.length : Int), 0) := by
    unfold spHeads
    rw [e5]
    simp only
    rw [if_neg (by simp), if_neg (by omega), if_neg s3, Int.toNat_natCast, e6]
    simp only [List.nil_append, Prod.mk.injEq, and_true, true_and]
    rw [eb]
    simp only [List.length_append, List.length_cons, List.length_nil]
    push_cast
    omega
  have hb0 : b.length ≠ 0 := by rw [eb]; simp
  have hb1 : b.getD 0 0 = 0 := by rw [eb]; rfl
  have e1 : spGet 10 1 b 1 = _ := e1
  unfold spRow
  rw [if_neg hb0, if_neg (notNe hb1), e1]
  simp only
  have e2' : spNum b (0 + ((([0] : List Int).length : Nat) : Int) + (spDig (spZig a0)).length) = _ := e2
  rw [if_neg (by simp), e2']
  simp only
  rw [if_neg (by simp), if_neg s1, e3]
  simp only
  rw [if_neg (by simp), e4]
  simp only
  rw [if_neg (by simp), eh]
  simp only
  rw [if_neg (by simp), if_neg (by omega), zag_zig]

end
end Go.Proofs.Ytnppjkijhcampaa.Sym

/- leatlaw07.RecBack. -/
namespace Go.Proofs.Ytnppjkijhcampaa.Sym
open Go
set_option linter.unusedSimpArgs false
set_option linter.unusedVariables false
noncomputable section

theorem spCheck_zero {r : RowD} (h : spCheck r = 0) : spShape r = 0 ∧ (spBody r).length ≤ 16384 := by
  unfold spCheck at h
  by_cases h1 : spShape r = 0
  · rw [if_neg (notNe h1)] at h
    refine ⟨h1, ?_⟩
    by_cases h2 : 16384 < ((spBody r).length : Int)
    · rw [if_pos h2] at h; cases h
    · omega
  · rw [if_pos h1] at h
    exact absurd h h1
theorem spPutR_zero {r : RowD} (h : spCheck r = 0) : spPutR r = (spDig (spZig (spBody r).length) ++ spBody r, 0) := by unfold spPutR; rw [if_pos h]
theorem spRec_at {r : RowD} (hr : RowOk r) (hc : spCheck r = 0) {b : List Int} {p : Int} (H : Has b p (spPutR r).1) : spRec b p = (r, p + (spPutR r).1.length, 0) := by
  obtain ⟨hs, hl⟩ := spCheck_zero hc
  rw [spPutR_zero hc] at H ⊢
  have hn := spNum_at (by omega) (by omega) H.left
  have H2 := H.right
  have hle := H2.len
  unfold spRec
  rw [hn]
  simp only
  rw [if_neg (by simp), if_neg (by omega), if_neg (by omega), if_neg (by omega), Int.toNat_natCast, H2.take, spRow_at hr hs hl]
  simp only [List.length_append]
  rw [if_neg (by simp)]
  simp only [Prod.mk.injEq, and_true, true_and]
  push_cast
  omega
theorem spHi_len2 : ∀ (k n : Nat) (u : Int), 0 ≤ u → u < 128 ^ (k + 1) → (spHi n u).length ≤ k
  | k, 0, u, _, _ => by simp [spHi]
  | 0, n + 1, u, h0, h => by
    have h : u < 128 := h
    rw [spHi, if_neg (by omega)]
    simp
  | k + 1, n + 1, u, h0, h => by
    rw [Int.pow_succ] at h
    have := spHi_len2 k n (u / 128) (by omega) (Int.ediv_lt_of_lt_mul (by omega) h)
    rw [spHi]
    split
    · simp; omega
    · simp
/-- A row that is cut isn't read. -/
theorem spRec_cut {r : RowD} (hc : spCheck r = 0) (k : Nat) (hk : k < (spPutR r).1.length) : spRec ((spPutR r).1.take k) 0 = (spNone, 0, 1) := by
  obtain ⟨hs, hl⟩ := spCheck_zero hc
  rw [spPutR_zero hc] at hk ⊢
  simp only at hk ⊢
  generalize spBody r = B at *
  have hz : 0 ≤ spZig B.length ∧ spZig B.length < 128 ^ (2 + 1) := by
    have : (128 : Int) ^ (2 + 1) = 2097152 := by decide
    unfold spZig
    split <;> omega
  have hz2 : spZig B.length < 2097152 := hz.2
  have hDl : (spDig (spZig B.length)).length ≤ 3 := by
    have := spHi_len2 2 10 _ hz.1 hz.2
    simp only [spDig, List.length_append, List.length_cons, List.length_nil]
    omega
  obtain ⟨c1, c2, c3⟩ := spDig_can hz.1 (by omega)
  generalize hD : spDig (spZig B.length) = D at *
  rw [List.length_append] at hk
  by_cases h : k < D.length
  · have e : (D ++ B).take k = D.take k := by rw [List.take_append_of_le_length (by omega)]
    rw [e]
    have hr := spRd_cut 5 15 (D.take k) (D.drop k) 0 (by intro h0; have := congrArg List.length h0; simp at this; omega) ⟨false, by rw [List.take_append_drop]; exact c1⟩ (by rw [List.take_append_drop]; omega)
    have hg : spGet 5 15 (D.take k) 0 = (0, 0, 1) := by
      unfold spGet
      rw [if_neg (by omega)]
      simp only [Int.toNat_zero, List.drop_zero]
      rw [hr, if_neg (by simp)]
    unfold spRec spNum
    rw [hg]
    rfl
  · have e : (D ++ B).take k = D ++ B.take (k - D.length) := by
      rw [List.take_append, List.take_of_length_le (by omega)]
    rw [e]
    have H : Has (D ++ B.take (k - D.length)) 0 (spDig (spZig B.length)) := ⟨by omega, by omega, B.take (k - D.length), by rw [hD]; simp⟩
    have hn := spNum_at (by omega) (by omega) H
    rw [hD] at hn
    unfold spRec
    rw [hn]
    simp only
    rw [if_neg (by simp), if_neg (by omega), if_neg (by omega), if_pos (by simp only [List.length_append, List.length_take]; omega)]

/-! ### leat/leatlaw07.RecBack -/
noncomputable abbrev iolBack : Io := ⟨[dL, dRow, dL], [], [], [dB], none⟩
noncomputable def FlBack (d : iolBack.In) : Tr iolBack.Res := .ite (spSmallR d.1.2.1 && (spRoom d.1.2.1 && decide (d.1.1.length + d.1.2.2.1.length ≤ 4294900000))) (.ret (.ret ((true, ()), ()))) .no
noncomputable abbrev cslBack : List (Nat × Hc) := [(9, ioHd iolalive Flalive), (16, ioHd iorTwin FrTwin), (15, ioHd iokPut FkPut), (17, ioHd iorCheck FrCheck), (18, ioHd ioCat FCat), (11, ioHd iokGet FkGet), (13, ioHd iorAlike FrAlike), (19, ioHd ioPiece FPiece)]
noncomputable def hdlBack : Hd := hdT cslBack
noncomputable def lplBack : Lp := lpT []

noncomputable def bodylBack (a0 : List Int) (a1 : Int) (a2 : Int) (a3 : Bool) (a4 : List Int) (a5 : Bool) (a6 : List Int) (a7 : List tHead.den) (a8 : List Int) : Option iolBack.Res := bif spSmallR (a1, a2, (a3, a4, ()), (a5, a6, ()), a7, ()) then bif spRoom (a1, a2, (a3, a4, ()), (a5, a6, ()), a7, ()) then bif spRoom (a1, a2, (a3, a4, ()), (a5, a6, ()), a7, ()) then bif spCheck (a1, a2, (a3, a4, ()), (a5, a6, ()), a7, ()) != 0 then bif (spPutR (a1, a2, (a3, a4, ()), (a5, a6, ()), a7, ())).snd != 0 then some (Out.ret (((↑(spPutR (a1, a2, (a3, a4, ()), (a5, a6, ()), a7, ())).fst.length : Int) == 0, ()), ())) else some (Out.ret ((false, ()), ())) else bif (spPutR (a1, a2, (a3, a4, ()), (a5, a6, ()), a7, ())).snd != 0 then some (Out.ret ((false, ()), ())) else bif decide (a0.length + (spPutR (a1, a2, (a3, a4, ()), (a5, a6, ()), a7, ())).fst.length ≤ 4294967296) then bif decide (List.length (a0 ++ (spPutR (a1, a2, (a3, a4, ()), (a5, a6, ()), a7, ())).fst) + a8.length ≤ 4294967296) then bif (spRec (a0 ++ (spPutR (a1, a2, (a3, a4, ()), (a5, a6, ()), a7, ())).fst ++ a8) (↑a0.length : Int)).snd.snd != 0 then some (Out.ret ((false, ()), ())) else bif (spRec (a0 ++ (spPutR (a1, a2, (a3, a4, ()), (a5, a6, ()), a7, ())).fst ++ a8) (↑a0.length : Int)).snd.fst != IntKind.i64.wrap ((↑a0.length : Int) + (↑(spPutR (a1, a2, (a3, a4, ()), (a5, a6, ()), a7, ())).fst.length : Int)) then some (Out.ret ((false, ()), ())) else bif !spEqR ((spRec (a0 ++ (spPutR (a1, a2, (a3, a4, ()), (a5, a6, ()), a7, ())).fst ++ a8) (↑a0.length : Int)).fst.fst, (spRec (a0 ++ (spPutR (a1, a2, (a3, a4, ()), (a5, a6, ()), a7, ())).fst ++ a8) (↑a0.length : Int)).fst.snd.fst, ((spRec (a0 ++ (spPutR (a1, a2, (a3, a4, ()), (a5, a6, ()), a7, ())).fst ++ a8) (↑a0.length : Int)).fst.snd.snd.fst.fst, (spRec (a0 ++ (spPutR (a1, a2, (a3, a4, ()), (a5, a6, ()), a7, ())).fst ++ a8) (↑a0.length : Int)).fst.snd.snd.fst.snd.fst, ()), ((spRec (a0 ++ (spPutR (a1, a2, (a3, a4, ()), (a5, a6, ()), a7, ())).fst ++ a8) (↑a0.length : Int)).fst.snd.snd.snd.fst.fst, (spRec (a0 ++ (spPutR (a1, a2, (a3, a4, ()), (a5, a6, ()), a7, ())).fst ++ a8) (↑a0.length : Int)).fst.snd.snd.snd.fst.snd.fst, ()), (spRec (a0 ++ (spPutR (a1, a2, (a3, a4, ()), (a5, a6, ()), a7, ())).fst ++ a8) (↑a0.length : Int)).fst.snd.snd.snd.snd.fst, ()) (a1, a2, (a3, a4, ()), (a5, a6, ()), a7, ()) then some (Out.ret ((false, ()), ())) else bif (↑(spPutR (a1, a2, (a3, a4, ()), (a5, a6, ()), a7, ())).fst.length : Int) == 0 then some (Out.ret ((false, ()), ())) else bif decide ((↑(spPutR (a1, a2, (a3, a4, ()), (a5, a6, ()), a7, ())).fst.length : Int) ≠ 0) then bif decide ((spPutR (a1, a2, (a3, a4, ()), (a5, a6, ()), a7, ())).fst.length ≤ 4294967296) then bif (spRec (List.drop (Int.toNat 0) (List.take (IntKind.i64.wrap ((↑a8.length : Int).tmod (↑(spPutR (a1, a2, (a3, a4, ()), (a5, a6, ()), a7, ())).fst.length : Int))).toNat (spPutR (a1, a2, (a3, a4, ()), (a5, a6, ()), a7, ())).fst)) 0).snd.snd == 1 then bif (spRec (List.drop (Int.toNat 0) (List.take (IntKind.i64.wrap ((↑a8.length : Int).tmod (↑(spPutR (a1, a2, (a3, a4, ()), (a5, a6, ()), a7, ())).fst.length : Int))).toNat (spPutR (a1, a2, (a3, a4, ()), (a5, a6, ()), a7, ())).fst)) 0).snd.fst == 0 then some (Out.ret ((spEqR ((spRec (List.drop (Int.toNat 0) (List.take (IntKind.i64.wrap ((↑a8.length : Int).tmod (↑(spPutR (a1, a2, (a3, a4, ()), (a5, a6, ()), a7, ())).fst.length : Int))).toNat (spPutR (a1, a2, (a3, a4, ()), (a5, a6, ()), a7, ())).fst)) 0).fst.fst, (spRec (List.drop (Int.toNat 0) (List.take (IntKind.i64.wrap ((↑a8.length : Int).tmod (↑(spPutR (a1, a2, (a3, a4, ()), (a5, a6, ()), a7, ())).fst.length : Int))).toNat (spPutR (a1, a2, (a3, a4, ()), (a5, a6, ()), a7, ())).fst)) 0).fst.snd.fst, ((spRec (List.drop (Int.toNat 0) (List.take (IntKind.i64.wrap ((↑a8.length : Int).tmod (↑(spPutR (a1, a2, (a3, a4, ()), (a5, a6, ()), a7, ())).fst.length : Int))).toNat (spPutR (a1, a2, (a3, a4, ()), (a5, a6, ()), a7, ())).fst)) 0).fst.snd.snd.fst.fst, (spRec (List.drop (Int.toNat 0) (List.take (IntKind.i64.wrap ((↑a8.length : Int).tmod (↑(spPutR (a1, a2, (a3, a4, ()), (a5, a6, ()), a7, ())).fst.length : Int))).toNat (spPutR (a1, a2, (a3, a4, ()), (a5, a6, ()), a7, ())).fst)) 0).fst.snd.snd.fst.snd.fst, ()), ((spRec (List.drop (Int.toNat 0) (List.take (IntKind.i64.wrap ((↑a8.length : Int).tmod (↑(spPutR (a1, a2, (a3, a4, ()), (a5, a6, ()), a7, ())).fst.length : Int))).toNat (spPutR (a1, a2, (a3, a4, ()), (a5, a6, ()), a7, ())).fst)) 0).fst.snd.snd.snd.fst.fst, (spRec (List.drop (Int.toNat 0) (List.take (IntKind.i64.wrap ((↑a8.length : Int).tmod (↑(spPutR (a1, a2, (a3, a4, ()), (a5, a6, ()), a7, ())).fst.length : Int))).toNat (spPutR (a1, a2, (a3, a4, ()), (a5, a6, ()), a7, ())).fst)) 0).fst.snd.snd.snd.fst.snd.fst, ()), (spRec (List.drop (Int.toNat 0) (List.take (IntKind.i64.wrap ((↑a8.length : Int).tmod (↑(spPutR (a1, a2, (a3, a4, ()), (a5, a6, ()), a7, ())).fst.length : Int))).toNat (spPutR (a1, a2, (a3, a4, ()), (a5, a6, ()), a7, ())).fst)) 0).fst.snd.snd.snd.snd.fst, ()) (0, 0, (false, [], ()), (false, [], ()), [], ()), ()), ())) else some (Out.ret ((false, ()), ())) else some (Out.ret ((false, ()), ())) else none else none else none else none else none else none else none
theorem runlBack (a0 : List Int) (a1 : Int) (a2 : Int) (a3 : Bool) (a4 : List Int) (a5 : Bool) (a6 : List Int) (a7 : List tHead.den) (a8 : List Int) : Io.run tt hdlBack dr lplBack iolBack Go.Proofs.Try.f4 ((a0, (a1, a2, (a3, a4, ()), (a5, a6, ()), a7, ()), a8, ()), ()) = bodylBack a0 a1 a2 a3 a4 a5 a6 a7 a8 := by kernel_rfl
theorem oklBack : HcOk prog 4 (ioHd iolBack FlBack) := by
  refine fn_sound (n := 400) hm (cs := cslBack) (.cons oklalive (.cons okrTwin (.cons okkPut (.cons okrCheck (.cons okCat (.cons okkGet (.cons okrAlike (.cons okPiece .nil)))))))) (lp := lplBack) (fn := Go.Proofs.Try.f4) (by kernel_rfl) (by kernel_rfl) (by kernel_rfl) iolBack (.done (by kernel_rfl)) FlBack ?_
  rintro ⟨⟨(h : List Int), ⟨(a0 : Int), (a1 : Int), ⟨(a2 : Bool), (a3 : List Int), ⟨⟩⟩, ⟨(a4 : Bool), (a5 : List Int), ⟨⟩⟩, (a6 : List Head), ⟨⟩⟩, (t : List Int), ⟨⟩⟩, ⟨⟩⟩ out hw ho
  obtain ⟨hg, ho⟩ := Tr.guard ho
  cases ho
  simp only [Bool.and_eq_true, decide_eq_true_eq] at hg
  obtain ⟨hg1, hg2, hg3⟩ := hg
  have hg1 : spSmallR (a0, a1, (a2, a3, ()), (a4, a5, ()), a6, ()) = true := hg1
  have hg2 : spRoom (a0, a1, (a2, a3, ()), (a4, a5, ()), a6, ()) = true := hg2
  have hg3 : h.length + t.length ≤ 4294900000 := hg3
  refine (runlBack h a0 a1 a2 a3 a4 a5 a6 t).trans ?_
  have hr : RowOk (a0, a1, (a2, a3, ()), (a4, a5, ()), a6, ()) := ⟨inR_i64.1 hw.1.2.1.1, inR_i32.1 hw.1.2.1.2.1⟩
  unfold bodylBack
  generalize ((a0, a1, (a2, a3, ()), (a4, a5, ()), a6, ()) : RowD) = r at *
  generalize hP : (spPutR r).1 = P
  change (bif spSmallR r then bif spRoom r then bif spRoom r then bif spCheck r != 0 then bif (spPutR r).2 != 0 then some (Out.ret (((P.length : Int) == 0, ()), ())) else _ else bif (spPutR r).2 != 0 then _ else
    bif decide (h.length + P.length ≤ 4294967296) then bif decide ((h ++ P).length + t.length ≤ 4294967296) then bif (spRec (h ++ P ++ t) (h.length : Int)).2.2 != 0 then _ else bif (spRec (h ++ P ++ t) (h.length : Int)).2.1 != IntKind.i64.wrap ((h.length : Int) + (P.length : Int)) then _ else
      bif !spEqR (spRec (h ++ P ++ t) (h.length : Int)).1 r then _ else bif (P.length : Int) == 0 then _ else bif decide ((P.length : Int) ≠ 0) then bif decide (P.length ≤ 4294967296) then
        bif (spRec (List.drop (Int.toNat 0) (List.take (IntKind.i64.wrap ((t.length : Int).tmod (P.length : Int))).toNat P)) 0).2.2 == 1 then bif (spRec (List.drop (Int.toNat 0) (List.take (IntKind.i64.wrap ((t.length : Int).tmod (P.length : Int))).toNat P)) 0).2.1 == 0 then
          some (Out.ret ((spEqR (spRec (List.drop (Int.toNat 0) (List.take (IntKind.i64.wrap ((t.length : Int).tmod (P.length : Int))).toNat P)) 0).1 spNone, ()), ())) else _ else _ else none else none else none else none else none else none else none) = _
  rw [hg1, hg2, bif_true rfl, bif_true rfl, bif_true rfl]
  by_cases hc : spCheck r = 0
  rotate_left
  · have e : spPutR r = ([], spCheck r) := by unfold spPutR; rw [if_neg hc]
    rw [e] at hP ⊢
    subst hP
    rw [bif_true (by simpa using hc), bif_true (by simpa using hc)]
    rfl
  have hP2 : (spPutR r).2 = 0 := by rw [spPutR_zero hc]
  have hPl : P.length ≤ 20000 ∧ 0 < P.length := by
    rw [← hP, spPutR_zero hc]
    have h1 := spDig_len (spZig (spBody r).length)
    have h2 := (spCheck_zero hc).2
    have h3 : 0 < (spDig (spZig (spBody r).length)).length := by simp [spDig]
    simp only [List.length_append]
    omega
  have e1 := spRec_at hr hc (b := h ++ P ++ t) (p := (h.length : Int)) ⟨by omega, by simp; omega, t, by rw [hP]; simp⟩
  rw [hP] at e1
  have hq : (t.length : Int).tmod (P.length : Int) = ((t.length % P.length : Nat) : Int) := by
    rw [Int.tmod_eq_emod_of_nonneg (by omega)]
    rfl
  have hlt : t.length % P.length < P.length := Nat.mod_lt _ hPl.2
  have hwr : IntKind.i64.wrap ((t.length : Int).tmod (P.length : Int)) = ((t.length % P.length : Nat) : Int) := by rw [hq, wrap_i64 (by omega) (by omega)]
  have e2 := spRec_cut hc (t.length % P.length) (by rw [hP]; exact hlt)
  rw [hP] at e2
  have e3 : List.drop (Int.toNat 0) (List.take (IntKind.i64.wrap ((t.length : Int).tmod (P.length : Int))).toNat P) = P.take (t.length % P.length) := by rw [hwr, Int.toNat_natCast]; rfl
  have s1 : spEqR r r = true := spEqR_iff.2 rfl
  have s2 : spEqR spNone spNone = true := spEqR_iff.2 rfl
  rw [e3, e1, e2, hP2, wrap_i64 (n := (h.length : Int) + (P.length : Int)) (by omega) (by omega), bif_false (by simpa using hc), bif_false (by rfl), bif_true (by simp; omega), bif_true (by simp; omega), bif_false (by rfl), bif_false (by simp)]
  simp only [s1, s2]
  rw [bif_false (by rfl), bif_false (c := ((P.length : Int) == 0)) (beq_false_of_ne (by omega)), bif_true (c := decide ((P.length : Int) ≠ 0)) (decide_eq_true (by omega)), bif_true (c := decide (P.length ≤ 4294967296)) (decide_eq_true (by omega))]
  rfl

end
end Go.Proofs.Ytnppjkijhcampaa.Sym

/- From the reading of a call's arguments to data; a law's call. -/
namespace Go.Proofs.Ytnppjkijhcampaa.Sym
open Go
open Go.ChangeShapes Go.WideShapes Go.ChangeAt Go.RowKit
set_option linter.unusedSimpArgs false
set_option linter.unusedVariables false

/-- Does a type stand for these data? (a type, or fields from an offset on) -/
def okTF (P : Program) : Ty → (TypeId ⊕ (List Field × Nat)) → Bool
  | .int k, .inl t => match P.underlying t with
    | some (.int k') => decide (k' = k)
    | _ => false
  | .bool, .inl t => match P.underlying t with
    | some .bool => true
    | _ => false
  | .str, .inl t => match P.underlying t with
    | some .string => true
    | _ => false
  | .sl e ty, .inl t => match P.underlying t with
    | some (.slice e') => (e' == e) && (okTF P ty (.inl e) && ((P.cellsOf e == ty.size) && !(ty.size == 0)))
    | _ => false
  | .prod a b, .inl t => match P.underlying t with
    | some (.struct fs) => (P.cellsOf t == a.size + b.size) && match fs.toList with
      | f :: fs' => (f.offset == 0) && ((P.cellsOf f.type == a.size) && (okTF P a (.inl f.type) && okTF P b (.inr (fs', a.size))))
      | [] => false
    | _ => false
  | .unit, .inr ([], _) => true
  | .prod a b, .inr (f :: fs, off) => (f.offset == off) && ((P.cellsOf f.type == a.size) && (okTF P a (.inl f.type) && okTF P b (.inr (fs, off + a.size))))
  | _, _ => false

/-- How much the data hold. -/
def dsz : (t : Ty) → t.den → Nat
  | .int _, _ => 1
  | .bool, _ => 1
  | .str, s => List.length (α := Int) s + 1
  | .sl _ t, xs => (List.map (dsz t) xs).sum + 1
  | .unit, _ => 0
  | .prod a b, x => dsz a x.1 + dsz b x.2

def S0 (W : World) (b o : Nat) : Prop := ∃ v, W.cell? ⟨b, o, none⟩ = some v

section
variable {P : Program} {W : World} {H : Type} {enc : TypeId × Value → H} {sp : Nat → Bool} {held : Bool}

theorem cells_at {a : Addr} {n : Nat} {cs : List Value} (h : W.cells? 0 a n = some cs) (hn : 0 < n) : a.spot = none ∧ cs.length = n ∧ At (S0 W) W a.block a.off cs := by
  simp only [World.cells?, Nat.zero_le, if_true] at h
  have hl := mapM_some_length h
  rw [List.length_range] at hl
  have hg : ∀ i, i < n → W.cell? (a.add i) = cs[i]? := fun i hi => mapM_some_get h i i (by simp [hi])
  have hsp : a.spot = none := by
    have h0 := hg 0 hn
    rw [List.getElem?_eq_getElem (by omega)] at h0
    unfold World.cell? at h0
    split at h0
    · split at h0
      · cases h0
      · rename_i hs
        cases e : a.spot with
        | none => rfl
        | some x => simp [Addr.add, e] at hs
    · cases h0
  refine ⟨hsp, hl, fun j v hv => ?_⟩
  have hj : j < n := by rw [← hl]; exact (List.getElem?_eq_some_iff.1 hv).1
  have := hg j hj
  rw [hv] at this
  have e : a.add j = ⟨a.block, a.off + j, none⟩ := by
    obtain ⟨b, o, s⟩ := a
    simp only at hsp
    subst hsp
    exact Addr.add_plain ..
  rw [e] at this
  exact ⟨⟨v, this⟩, this⟩

theorem okT_notUnit {t : TypeId} : okTF P .unit (.inl t) = false := by simp [okTF]

theorem trod_dat (ub : DataW H → Nat) (uba : List (DataW H) → Nat) (u1 : ∀ l, 1 ≤ ub (.lit l)) (u2 : ∀ bs, bs.length + 1 ≤ ub (.lit (.string bs))) (u3 : 1 ≤ ub .nil) (u4 : ∀ es ss, uba es + 1 ≤ ub (.slice es ss)) (u5 : ∀ ps, uba ps ≤ ub (.agg ps))
    (u6 : ∀ d ds, uba (d :: ds) = ub d + uba ds) (u7 : uba [] = 0) :
    ∀ (ty : Ty), (∀ (t : TypeId), okTF P ty (.inl t) = true → ∀ (fuel : Nat) (cs : List Value) (x : DataW H × List MemPlace), DataW.trod enc P W 0 sp held fuel t cs = some x → ∃ y : ty.den, Rt (S0 W) W ty y cs ∧ dsz ty y ≤ ub x.1) ∧
      (∀ (fs : List Field) (off : Nat), okTF P ty (.inr (fs, off)) = true → ∀ (fuel : Nat) (cs : List Value) (xs : List (DataW H × List MemPlace)), fs.mapM (fun f => DataW.trod enc P W 0 sp held fuel f.type ((cs.drop f.offset).take (P.cellsOf f.type))) = some xs →
        (cs.drop off).length = ty.size → ∃ y : ty.den, Rt (S0 W) W ty y (cs.drop off) ∧ dsz ty y ≤ uba (xs.map (·.1)))
  | .int k => by
    refine ⟨fun t ht fuel cs x h => ?_, fun fs off ht => by cases fs <;> simp [okTF] at ht⟩
    simp only [okTF] at ht
    split at ht
    · rename_i k' hu
      have ht := of_decide_eq_true ht
      subst ht
      obtain ⟨n2, rfl, rfl, hw⟩ := DataW.trod_int hu h
      refine ⟨n2, ⟨rfl, ?_⟩, u1 _⟩
      simpa [Lit.wf, inR] using hw
    · cases ht
  | .bool => by
    refine ⟨fun t ht fuel cs x h => ?_, fun fs off ht => by cases fs <;> simp [okTF] at ht⟩
    simp only [okTF] at ht
    split at ht
    · rename_i hu
      obtain ⟨b, rfl, rfl⟩ := DataW.trod_bool hu h
      exact ⟨b, rfl, u1 _⟩
    · cases ht
  | .str => by
    refine ⟨fun t ht fuel cs x h => ?_, fun fs off ht => by cases fs <;> simp [okTF] at ht⟩
    simp only [okTF] at ht
    split at ht
    · rename_i hu
      obtain ⟨s, rfl, rfl, hl⟩ := DataW.trod_string hu h
      refine ⟨unStr s, ⟨by rw [mkStr_unStr], unStr_byteR s, ?_⟩, ?_⟩
      · have : (unStr s).length = s.size := by rw [← mkStr_size, mkStr_unStr]
        rw [this]; exact hl
      · have : (unStr s).length = s.data.toList.length := by unfold unStr; exact List.length_map _
        show (unStr s).length + 1 ≤ _
        rw [this]
        exact u2 _
    · cases ht
  | .unit => by
    refine ⟨fun t ht => by simp [okTF] at ht, fun fs off ht fuel cs xs h hl => ?_⟩
    refine ⟨(), ?_, Nat.zero_le _⟩
    exact List.eq_nil_of_length_eq_zero hl
  | .sl e ty => by
    refine ⟨fun t ht fuel cs x h => ?_, fun fs off ht => by cases fs <;> simp [okTF] at ht⟩
    simp only [okTF] at ht
    split at ht
    · rename_i e' hu
      simp only [Bool.and_eq_true, beq_iff_eq, Bool.not_eq_true', beq_eq_false_iff_ne] at ht
      obtain ⟨rfl, hT, hsz, hpos⟩ := ht
      have ih := (trod_dat ub uba u1 u2 u3 u4 u5 u6 u7 ty).1 e' hT
      rcases DataW.trod_slice hu h with ⟨rfl, rfl⟩ | ⟨a, len, cap, elems, rest, n, _, rfl, rfl, hb, hl, hm, hlen, hel, _, _⟩
      · exact ⟨[], ⟨none, 0, rfl, Nat.le_refl _, Nat.zero_le _, fun h => absurd rfl h⟩, u3⟩
      · have each : ∀ i, i < len → ∃ y : ty.den, (∃ c, Rt (S0 W) W ty y c ∧ (i = 0 → a.spot = none) ∧ At (S0 W) W a.block (a.off + i * ty.size) c) ∧ ∃ d, elems[i]? = some d ∧ dsz ty y ≤ ub d.1 := by
          intro i hi
          have h1 := hel i hi
          rw [List.getElem?_eq_getElem (by omega)] at h1
          obtain ⟨c, hc, hd⟩ := Option.bind_eq_some_iff.1 h1
          obtain ⟨y, hy, hs⟩ := ih _ _ _ hd
          rw [hsz] at hc
          obtain ⟨h2, h3, h4⟩ := cells_at hc (by omega)
          have e1 : (a.add (i * ty.size)).block = a.block := by unfold Addr.add; split <;> rfl
          have e2 : (a.add (i * ty.size)).off = a.off + i * ty.size := by
            unfold Addr.add
            split
            · rename_i h0; rw [h0]; rfl
            · rfl
          rw [e1, e2] at h4
          refine ⟨y, ⟨c, hy, fun h0 => ?_, h4⟩, elems[i], by simp, hs⟩
          subst h0
          simpa [Addr.add] using h2
        have mk : ∀ m, m ≤ len → ∃ ys : List ty.den, ys.length = m ∧ (∀ i y, ys[i]? = some y → ∃ c, Rt (S0 W) W ty y c ∧ (i = 0 → a.spot = none) ∧ At (S0 W) W a.block (a.off + i * ty.size) c) ∧ (ys.map (dsz ty)).sum ≤ uba ((elems.take m).map (·.1)) := by
          intro m
          induction m with
          | zero => intro _; exact ⟨[], rfl, fun i y h => by simp at h, by simp⟩
          | succ m ihm =>
            intro hm'
            obtain ⟨ys, g1, g2, g3⟩ := ihm (by omega)
            obtain ⟨y, g4, d, g5, g6⟩ := each m (by omega)
            refine ⟨ys ++ [y], by simp [g1], fun i z hz => ?_, ?_⟩
            · rw [List.getElem?_append] at hz
              split at hz
              · exact g2 i z hz
              · rename_i hlt
                have : i = m := by
                  have := (List.getElem?_eq_some_iff.1 hz).1
                  simp at this; omega
                subst this
                simp [g1] at hz
                subst hz
                exact g4
            · have hap : ∀ (xs bs : List (DataW H)), uba (xs ++ bs) = uba xs + uba bs := by
                intro xs bs
                induction xs with
                | nil => simp [u7]
                | cons c xs ih => rw [List.cons_append, u6, u6, ih]; omega
              rw [List.take_add_one, g5]
              simp only [List.map_append, List.sum_append, hap, Option.toList, List.map_cons, List.map_nil, List.sum_cons, List.sum_nil, u6, u7]
              omega
        obtain ⟨ys, g1, g2, g3⟩ := mk len (Nat.le_refl _)
        refine ⟨ys, ⟨some a, cap, by rw [g1], by omega, hm, fun hne => ?_⟩, ?_⟩
        · have h0 : 0 < ys.length := List.length_pos_iff.2 hne
          obtain ⟨c, _, hsp, _⟩ := g2 0 ys[0] (by simp)
          have hsp := hsp rfl
          refine ⟨a.block, a.off, ?_, fun i y hy => ?_⟩
          · obtain ⟨b, o, s⟩ := a
            simp only at hsp
            rw [hsp]
          · obtain ⟨c, hc, _, hat⟩ := g2 i y hy
            exact ⟨c, hc, hat⟩
        · rw [List.take_of_length_le (by omega)] at g3
          show (ys.map (dsz ty)).sum + 1 ≤ _
          exact Nat.le_trans (by omega) (u4 _ _)
    · cases ht
  | .prod a b => by
    have step : ∀ (f : Field) (fs : List Field) (off : Nat), ((f.offset == off) && ((P.cellsOf f.type == a.size) && (okTF P a (.inl f.type) && okTF P b (.inr (fs, off + a.size))))) = true →
        ∀ (fuel : Nat) (cs : List Value) (xs : List (DataW H × List MemPlace)), (f :: fs).mapM (fun f => DataW.trod enc P W 0 sp held fuel f.type ((cs.drop f.offset).take (P.cellsOf f.type))) = some xs →
        (cs.drop off).length = a.size + b.size → ∃ y : a.den × b.den, Rt (S0 W) W (.prod a b) y (cs.drop off) ∧ dsz a y.1 + dsz b y.2 ≤ uba (xs.map (·.1)) := by
      intro f fs off ht fuel cs xs h hl
      simp only [Bool.and_eq_true, beq_iff_eq] at ht
      obtain ⟨rfl, hs, hA, hB⟩ := ht
      simp only [List.mapM_cons, Option.bind_eq_bind, Option.bind_eq_some_iff] at h
      obtain ⟨x0, h0, xs', h1, h2⟩ := h
      simp only [Option.pure_def, Option.some.injEq] at h2
      subst h2
      rw [hs] at h0
      obtain ⟨y1, hy1, hd1⟩ := (trod_dat ub uba u1 u2 u3 u4 u5 u6 u7 a).1 f.type hA _ _ _ h0
      have hl2 : (cs.drop (f.offset + a.size)).length = b.size := by
        simp only [List.length_drop] at hl ⊢
        omega
      obtain ⟨y2, hy2, hd2⟩ := (trod_dat ub uba u1 u2 u3 u4 u5 u6 u7 b).2 fs _ hB _ _ _ h1 hl2
      refine ⟨(y1, y2), ⟨_, _, ?_, hy1, hy2⟩, ?_⟩
      · rw [← List.drop_drop, List.take_append_drop]
      · simp only [List.map_cons, u6]
        omega
    refine ⟨fun t ht fuel cs x h => ?_, fun fs off ht fuel cs xs h hl => ?_⟩
    · simp only [okTF] at ht
      split at ht
      · rename_i fs hu
        simp only [Bool.and_eq_true, beq_iff_eq] at ht
        obtain ⟨hsz, ht⟩ := ht
        split at ht
        · rename_i f fs' hfs
          cases fuel with
          | zero => simp [DataW.trod] at h
          | succ n =>
            unfold DataW.trod at h
            rw [hu] at h
            simp only at h
            split at h
            · rename_i hlen
              obtain ⟨xs, hxs, rfl⟩ := Option.map_eq_some_iff.1 h
              rw [hfs] at hxs
              obtain ⟨y, hy, hd⟩ := step f fs' 0 (by simpa using ht) n cs xs hxs (by simpa [hsz] using hlen)
              exact ⟨y, by simpa using hy, Nat.le_trans hd (u5 _)⟩
            · cases h
        · cases ht
      · cases ht
    · cases fs with
      | nil => simp [okTF] at ht
      | cons f fs => exact step f fs off (by simpa only [okTF] using ht) fuel cs xs h hl

theorem datOf {ty : Ty} {t : TypeId} (ht : okTF P ty (.inl t) = true) {fuel : Nat} {cs : List Value} {d : DataW H} {ps : List MemPlace} (h : DataW.trod enc P W 0 sp held fuel t cs = some (d, ps)) : ∃ y : ty.den, Rt (S0 W) W ty y cs ∧ dsz ty y ≤ Rows.uptoBulk d :=
  (trod_dat Rows.uptoBulk Rows.uptoBulkAll (fun l => by cases l <;> simp [Rows.uptoBulk]) (fun bs => by simp [Rows.uptoBulk]) (by simp [Rows.uptoBulk]) (fun es ss => by simp [Rows.uptoBulk]) (fun ps => by simp [Rows.uptoBulk]) (fun d ds => by simp [Rows.uptoBulkAll]) (by simp [Rows.uptoBulkAll]) ty).1 t ht fuel cs _ h
theorem dsz_pos_sum {t : Ty} (hp : ∀ x : t.den, 1 ≤ dsz t x) : ∀ xs : List t.den, xs.length ≤ (xs.map (dsz t)).sum
  | [] => by simp
  | x :: xs => by
    have := dsz_pos_sum hp xs
    have := hp x
    simp only [List.length_cons, List.map_cons, List.sum_cons]
    omega
theorem dsz_len {e : Nat} {k : IntKind} (xs : (Ty.sl e (.int k)).den) : List.length xs ≤ dsz (.sl e (.int k)) xs := by
  have := dsz_pos_sum (t := .int k) (fun _ => Nat.le_refl 1) xs
  show _ ≤ (List.map (dsz (.int k)) xs).sum + 1
  exact Nat.le_trans this (Nat.le_succ _)

/-! ### a law's call -/
def G0 (W : World) : Gh := ⟨S0 W, fun _ => none, fun _ => none⟩
def F0 (W : World) : Fra := ⟨W, fun _ => False, S0 W, fun _ => none⟩
theorem rel0 (W : World) : Rel (F0 W) (G0 W) ⟨[], [], []⟩ #[] [] W where
  tm := trivial
  stk := trivial
  ob := fun k cs h => by simp at h
  gh := ⟨fun _ _ h => (by cases h), fun _ _ _ h => (by cases h), fun _ _ _ h => (by cases h), fun _ _ _ _ _ h => (by cases h), fun b o h => (by
      obtain ⟨v, h⟩ := h
      unfold World.cell? at h
      split at h
      · rename_i e
        exact (Array.getElem?_eq_some_iff.1 e).1
      · cases h), ⟨rfl, rfl, rfl, Nat.le_refl _, fun _ _ _ => rfl⟩, fun _ _ h => h, fun _ _ h => .inl h, fun _ _ _ => rfl, fun _ _ h => (by cases h)⟩
def lawK (oc : Oc) (A : AS) : Option Unit := match oc with
  | .ret (.one (.bool true)) _ => some ()
  | _ => none
theorem law_calls {f : Nat} {io : Io} {Fn : io.In → Tr io.Res} (hok : HcOk P f (ioHd io Fn)) {args : List V} {vals : Array Value} (hargs : All2 (Rv (G0 W) W) args vals.toList) (hrun : ioHd io Fn Unit args 1 ⟨[], [], []⟩ lawK = some ()) :
    Calls P f vals W fun e w' => e = .returned (.bool true) ∧ w'.os = W.os ∧ w'.output = W.output ∧ ∀ i, i < W.heap.size → w'.heap[i]? = W.heap[i]? := by
  refine (hok Unit args 1 _ lawK () (F0 W) (G0 W) #[] [] W vals (fun _ => rfl) hrun (rel0 W) hargs).2.mono ?_
  rintro e w' ⟨G', A', v, u, R', hv, h⟩
  have hfr := R'.gh.fr
  refine ⟨?_, hfr.os, hfr.output, fun i hi => hfr.block i hi (fun h => h)⟩
  rcases h with ⟨rfl, ks, _, hk⟩ | ⟨rfl, hk⟩
  · unfold lawK at hk
    split at hk
    · rename_i e
      cases e
      rw [show u = .bool true from hv]
    · cases hk
  · cases hk

/-! ### arguments -/
def argV (ty : Ty) (y : ty.den) : V := bif ty.isProd then .agg (toCs ty y) else match toCs ty y with
  | [c] => .one c
  | _ => .any
theorem argV_sound {G : Gh} {ty : Ty} {y : ty.den} {v : Value} (h : Rt G.S W ty y v.cells.toList) (hp : ty.isProd = true → ∃ vs, v = .agg vs) (hn : ty.isProd = false → v.cells = #[v]) : Rv G W (argV ty y) v := by
  have hs := toCs_sound (G := G) (w := W) ty y _ h
  unfold argV
  cases hb : ty.isProd with
  | true =>
    obtain ⟨vs, rfl⟩ := hp hb
    exact ⟨vs, rfl, hs⟩
  | false =>
    rw [hn hb] at hs
    simp only [cond_false]
    split
    · rename_i c e
      rw [e] at hs
      exact hs.1
    · trivial
theorem arg_shape {ty : Ty} {t : TypeId} (ht : okTF P ty (.inl t) = true) {r : Reach} {base : Nat} {v : Value} (hval : Value.okWide P W r base t v) : (ty.isProd = true → ∃ vs, v = .agg vs) ∧ (ty.isProd = false → v.cells = #[v]) := by
  cases ty with
  | int k =>
    refine ⟨fun h => (by cases h), fun _ => ?_⟩
    simp only [okTF] at ht
    split at ht
    · rename_i k' hu
      cases v <;> simp [Value.okWide, hu, Cell.okWide, Cell.ok] at hval <;> rfl
    · cases ht
  | bool =>
    refine ⟨fun h => (by cases h), fun _ => ?_⟩
    simp only [okTF] at ht
    split at ht
    · rename_i hu
      cases v <;> simp [Value.okWide, hu, Cell.okWide, Cell.ok] at hval <;> rfl
    · cases ht
  | str =>
    refine ⟨fun h => (by cases h), fun _ => ?_⟩
    simp only [okTF] at ht
    split at ht
    · rename_i hu
      cases v <;> simp [Value.okWide, hu, Cell.okWide, Cell.ok] at hval <;> rfl
    · cases ht
  | sl e ty =>
    refine ⟨fun h => (by cases h), fun _ => ?_⟩
    simp only [okTF] at ht
    split at ht
    · rename_i e' hu
      cases v <;> simp [Value.okWide, hu, Cell.okWide, Cell.ok] at hval <;> rfl
    · cases ht
  | unit => simp [okTF] at ht
  | prod a b =>
    refine ⟨fun _ => ?_, fun h => (by cases h)⟩
    simp only [okTF] at ht
    split at ht
    · rename_i fs hu
      simp only [Value.okWide, hu] at hval
      obtain ⟨cs, rfl, _⟩ := hval
      exact ⟨cs, rfl⟩
    · cases ht
/-- No slice's elements are without cells. -/
def slicesB (P : Program) : Bool := (List.range P.types.size).all fun t => match P.underlying t with
  | some (.slice e) => decide (0 < P.cellsOf e)
  | _ => true
theorem args_stay (hl : laidOutB P = true) (hm : mapsRowed P = true) (hs : slicesB P = true) {W' : World} (hk : ∀ i, i < W.heap.size → W'.heap[i]? = W.heap[i]?) : ∀ {ts : List TypeId} {vs : List Value} {ds : List (DataW H)} {ps : List MemPlace},
    (∀ t ∈ ts, t < P.types.size) → DataW.TrodAll enc P W 0 (fun _ => true) true ts vs ds ps → (∀ p ∈ ps, sp p.block = true) → DataW.TrodAll enc P W' 0 sp true ts vs ds ps
  | [], [], [], _, _, h, _ => h
  | t :: ts, v :: vs, d :: ds, ps, hT, ⟨p, q, ⟨fuel, h1⟩, h2, e⟩, hsp => by
    refine ⟨p, q, ⟨fuel, DataW.trod_stays (kids_rows hl hm) (fun {t e} ht hu => ?_) (fun h => (by cases h)) (hT t (by simp)) h1 (fun x hx => ?_) fun x hx => hsp x (by rw [e]; exact List.mem_append_left _ hx)⟩,
      args_stay hl hm hs hk (fun t ht => hT t (by simp [ht])) h2 (fun x hx => hsp x (by rw [e]; exact List.mem_append_right _ hx)), e⟩
    · have := List.all_eq_true.1 hs t (by simpa using ht)
      rw [hu] at this
      exact of_decide_eq_true this
    · have hb := DataW.trod_lt _ _ _ _ h1 x hx
      cases x with
      | cell b off => simp [World.sameAt, World.cell?, hk b hb]
      | map b => exact hk b hb
  | [], [], _ :: _, _, _, h, _ => h.elim
  | [], _ :: _, _, _, _, h, _ => h.elim
  | _ :: _, [], _, _, _, h, _ => h.elim
  | _ :: _, _ :: _, [], _, _, h, _ => h.elim

/-- The world behind the call is the old one and new blocks: what the law says follows. -/
theorem post_law {f : Func} {s : ChangeSpec} {apart fresh handsOn again : Bool} {W' : World} {args : Array Value} {ds gs : List (DataW H)} {before : List MemPlace}
    (hl : laidOutB P = true) (hm : mapsRowed P = true) (hs : slicesB P = true) (hT : ∀ t ∈ f.params.toList, t < P.types.size) {tb : TypeId} (hr : f.resultTypes = #[tb]) (htb : P.underlying tb = some .bool) (hv : s.vars = [])
    (hW : DataW.Whole enc P f.params.toList s.vars apart W args.toList ds gs before) (hfn : s.fn H (ds ++ gs) = { results := [.lit (.bool true)], args := ds })
    (hos : W'.os = W.os) (hout : W'.output = W.output) (hk : ∀ i, i < W.heap.size → W'.heap[i]? = W.heap[i]?) : s.post enc P f apart fresh handsOn again W args (.bool true) W' := by
  have hlt := hW.lt
  obtain ⟨p, q, hA, hV, hpq, hfz, hnd⟩ := id hW
  rw [hv] at hV
  obtain ⟨rfl, rfl⟩ := trodVars_none hV
  rw [List.append_nil] at hpq
  subst hpq
  have hres : ∀ (b : Nat) (sp : Nat → Bool) (hd : Bool), DataW.TrodAll enc P W' b sp hd f.resultTypes.toList ((Value.bool true).resultList f.resultTypes.size) [.lit (.bool true)] [] := by
    intro b sp hd
    rw [hr]
    exact trodAll_cons_mk (shut_bool htb _) trodAll_mk0
  have hargs : ∀ sp : Nat → Bool, (∀ x ∈ before, sp x.block = true) → DataW.TrodAll enc P W' 0 sp true f.params.toList args.toList ds before :=
    fun sp hsp => args_stay hl hm hs hk hT hA hsp
  have hvars : ∀ sp : Nat → Bool, DataW.TrodVars enc P W' sp s.vars [] [] := by
    intro sp
    rw [hv]
    rfl
  have hold : ∀ x ∈ before, (fun b => decide (b < W.heap.size)) x.block = true := fun x hx => by simpa using hlt x hx
  have hkept : ∀ may : MemPlace → Prop, W.keptBut W' may := fun may => ⟨hos, hout, fun i hi => by
    rw [hk i hi]
    cases h : W.heap[i]? with
    | none => rfl
    | some o => cases o <;> simp⟩
  refine ⟨ds, [], before, [], before, [], hW, by rw [hfn]; exact hres _ _ _, by rw [hfn]; exact hargs _ hold, by rw [hfn]; exact hvars _, hkept _, fun _ => ?_⟩
  refine ⟨ok_one hr rfl (okWide_bool_mk htb true), [.lit (.bool true)] ++ ds, [], [] ++ before, ⟨[] ++ before, [], trodAll_append (hargs _ fun _ _ => rfl) (hres _ _ _), hvars _, by simp, fun b off hx => ?_, fun ha => by simpa using hnd ha⟩, fun x hx _ => by simpa using hx⟩
  have hx : MemPlace.cell b off ∈ before := by simpa using hx
  rw [← hfz b off hx]
  simp [World.frozen?, hk b (hlt _ hx)]

/-! ### all arguments -/
@[reducible] def TysDen : List Ty → Type
  | [] => Unit
  | t :: ts => t.den × TysDen ts
def argVs : (tys : List Ty) → TysDen tys → List V
  | [], _ => []
  | t :: ts, y => argV t y.1 :: argVs ts y.2
def dszs : (tys : List Ty) → TysDen tys → Nat
  | [], _ => 0
  | t :: ts, y => dsz t y.1 + dszs ts y.2
def wfs : (tys : List Ty) → TysDen tys → Prop
  | [], _ => True
  | t :: ts, y => t.wf y.1 ∧ wfs ts y.2
def okTs (P : Program) : List Ty → List TypeId → Bool
  | [], [] => true
  | ty :: tys, t :: ts => okTF P ty (.inl t) && okTs P tys ts
  | _, _ => false
theorem args_dat {r : Reach} {base : Nat} : ∀ (tys : List Ty) (ts : List TypeId), okTs P tys ts = true → ∀ {vs : List Value} {ds : List (DataW H)} {ps : List MemPlace}, DataW.TrodAll enc P W 0 sp held ts vs ds ps →
    (∀ (j : Nat) t v, ts[j]? = some t → vs[j]? = some v → Value.okWide P W r base t v) →
    ∃ ys : TysDen tys, All2 (Rv (G0 W) W) (argVs tys ys) vs ∧ dszs tys ys ≤ Rows.uptoBulkAll ds ∧ wfs tys ys ∧ ds.length = tys.length
  | [], [], _, [], [], _, _, _ => ⟨(), trivial, Nat.zero_le _, trivial, rfl⟩
  | ty :: tys, t :: ts, ht, v :: vs, d :: ds, _, ⟨p, q, ⟨fuel, h1⟩, h2, _⟩, hv => by
    simp only [okTs, Bool.and_eq_true] at ht
    obtain ⟨y, hy, hs⟩ := datOf ht.1 h1
    obtain ⟨k1, k2⟩ := arg_shape ht.1 (hv 0 t v rfl rfl)
    obtain ⟨ys, g1, g2, g3, g4⟩ := args_dat tys ts ht.2 h2 fun j t' v' e1 e2 => hv (j + 1) t' v' (by simpa using e1) (by simpa using e2)
    refine ⟨(y, ys), ⟨argV_sound hy k1 k2, g1⟩, ?_, ⟨Rt.wf ty y _ hy, g3⟩, by simp [g4]⟩
    simp only [dszs, Rows.uptoBulkAll]
    omega
  | [], [], _, [], _ :: _, _, h, _ => h.elim
  | [], [], _, _ :: _, _, _, h, _ => h.elim
  | _ :: _, _ :: _, _, [], _, _, h, _ => h.elim
  | _ :: _, _ :: _, _, _ :: _, [], _, h, _ => h.elim
  | [], _ :: _, h, _, _, _, _, _ => by cases h
  | _ :: _, [], h, _, _, _, _, _ => by cases h

/-- A law's row, from its contract. -/
theorem law_contract {fn : Func} {f : Nat} {io : Io} {Fn : io.In → Tr io.Res} (hok : HcOk P f (ioHd io Fn)) {s : ChangeSpec} (tys : List Ty) (hts : okTs P tys fn.params.toList = true)
    (hl : laidOutB P = true) (hm : mapsRowed P = true) (hs : slicesB P = true) (hT : ∀ t ∈ fn.params.toList, t < P.types.size) {tb : TypeId} (hr : fn.resultTypes = #[tb]) (htb : P.underlying tb = some .bool) (hv : s.vars = [])
    (hfn : ∀ ds : List (DataW H), ds.length = tys.length → s.fn H ds = { results := [.lit (.bool true)], args := ds })
    (hrun : ∀ ys : TysDen tys, dszs tys ys ≤ 1048576 → wfs tys ys → ioHd io Fn Unit (argVs tys ys) 1 ⟨[], [], []⟩ lawK = some ())
    (base : Nat) (args : Array Value) (ds gs : List (DataW H)) (before : List MemPlace)
    (hval : ∀ (j : Nat) t v, fn.params[j]? = some t → args[j]? = some v → Value.okWide P W .any base t v)
    (hW : DataW.Whole enc P fn.params.toList s.vars false W args.toList ds gs before) (hk : Rows.uptoSmall H (ds ++ gs) = true) :
    Calls P f args W fun e W' => ∃ v, e = .returned v ∧ s.post enc P fn false true false false W args v W' := by
  have hW' := hW
  obtain ⟨p, q, hA, hV, _, _, _⟩ := hW
  rw [hv] at hV
  obtain ⟨rfl, rfl⟩ := trodVars_none hV
  obtain ⟨ys, g1, g2, g3, g4⟩ := args_dat tys fn.params.toList hts hA fun j t v e1 e2 => hval j t v (by simpa using e1) (by simpa using e2)
  have hb : Rows.uptoBulkAll ds ≤ 1048576 := by simpa [Rows.uptoSmall] using hk
  refine (law_calls hok (vals := args) (args := argVs tys ys) g1 (hrun ys (by omega) g3)).mono ?_
  rintro e W' ⟨rfl, hos, hout, hkeep⟩
  exact ⟨_, rfl, post_law hl hm hs hT hr htb hv hW' (by rw [List.append_nil]; exact hfn ds g4) hos hout hkeep⟩
end
end Go.Proofs.Ytnppjkijhcampaa.Sym

/- A region that may be carried out in several orders, where what is reached depends only on which operations have come. -/
namespace Go.Proofs.Ytnppjkijhcampaa.Sym
open Go
set_option linter.unusedSimpArgs false
set_option linter.unusedVariables false

def AllP {α : Type} (Q : α → Prop) : List α → Prop
  | [] => True
  | a :: l => Q a ∧ AllP Q l
theorem AllP.mem {α : Type} {Q : α → Prop} : ∀ {l : List α}, AllP Q l → ∀ a ∈ l, Q a
  | _ :: _, h, a, ha => by
    rcases List.mem_cons.1 ha with rfl | ha
    · exact h.1
    · exact AllP.mem h.2 a ha
  | [], _, a, ha => by cases ha

noncomputable section
/-- One operation of a region. -/
def stepI (tt : TT) (hd : Hd) (kb : Nat) (ops : Array Oper) (i : Nat) (A : AS) (K : AS → Option Unit) : Option Unit :=
  match ops[i]? with
  | some o => guarded ops o A (fun A => evOp tt hd kb [] o A fun ex A' => match ex with
    | .normal => K A'
    | _ => none) K
  | none => none
/-- All that may have come, and what may come next. -/
def nextI (ops : Array Oper) (L : Array Bool) : List (Array Bool × Nat) := (Region.ready .any ops L).map fun i => (L, i)
def levI (ops : Array Oper) : Nat → List (Array Bool)
  | 0 => [Array.replicate ops.size false]
  | n + 1 => ((levI ops n).flatMap fun L => (nextI ops L).map fun p => p.1.setIfInBounds p.2 true).eraseDups
def pairsI (ops : Array Oper) : List (Array Bool × Nat) := (List.range ops.size).flatMap fun n => (levI ops n).flatMap (nextI ops)
/-- Each way of all goes on and ends. -/
def okI (ops : Array Oper) : Nat → Nat → Bool
  | 0, n => (levI ops n).all fun L => (Region.ready .any ops L).isEmpty
  | k + 1, n => ((levI ops n).all fun L => !(Region.ready .any ops L).isEmpty && (Region.ready .any ops L).all fun i => (levI ops (n + 1)).contains (L.setIfInBounds i true)) && okI ops k (n + 1)

section
variable {P : Program} {tt : TT}
theorem ideals_sound (htt : TTok P tt) {hd : Hd} (hh : HdOk P hd) {F : Fra} {cst : List (Array Value)} {kb : Nat} (hkb : ∀ d, F.mu0 (kb + d) = none) {ops : Array Oper} {Q : Exit → Act → World → Prop} {dfs : List Deferred}
    (st : Array Bool → AS) (hs : ∀ n, n < ops.size → ∀ L ∈ levI ops n, ∀ i ∈ Region.ready .any ops L, ∀ K, stepI tt hd kb ops i (st L) K = K (st (L.setIfInBounds i true)))
    (hQ : ∀ L ∈ levI ops ops.size, ∀ G a w, Rel F G (st L) a.tmps cst w → a.defers = dfs → Q .normal a w) :
    ∀ (k n : Nat), n + k = ops.size → okI ops k n = true → ∀ L ∈ levI ops n, ∀ G a w, Rel F G (st L) a.tmps cst w → a.defers = dfs → wpAny P .any ops Q k L a w
  | 0, n, hn, hok, L, hL, G, a, w, R, hd' => by
    simp only [okI, List.all_eq_true, List.isEmpty_iff] at hok
    simp only [Nat.add_zero] at hn
    subst hn
    exact ⟨hok L hL, hQ L hL G a w R hd'⟩
  | k + 1, n, hn, hok, L, hL, G, a, w, R, hdf => by
    simp only [okI, Bool.and_eq_true, List.all_eq_true, Bool.not_eq_true', List.isEmpty_eq_false_iff, List.contains_iff_mem] at hok
    obtain ⟨hok, hok'⟩ := hok
    obtain ⟨h1, h2⟩ := hok L hL
    refine ⟨fun e => absurd e h1, fun i hi => ?_⟩
    have hst := hs n (by omega) L hL i hi
    have hL' := h2 i hi
    have ih := ideals_sound htt hh hkb st hs hQ k (n + 1) (by omega) hok' (L.setIfInBounds i true) hL'
    have hst1 := hst fun A => open Classical in if A = st (L.setIfInBounds i true) then some () else none
    rw [if_pos rfl] at hst1
    unfold stepI at hst1
    unfold wpOp
    cases ho : ops[i]? with
    | none => rw [ho] at hst1; cases hst1
    | some o =>
      rw [ho] at hst1
      simp only at hst1 ⊢
      rcases guarded_cases R hst1 with ⟨hw, A1, R1, g1⟩ | ⟨hw, A1, R1, g1⟩
      · rw [if_pos hw]
        refine .inl (evOp_sound htt hh R1 hkb [] o g1 ?_)
        intro ex A' G' a' w' R' hd' hk
        cases ex with
        | normal =>
          intro _
          simp only at hk
          split at hk
          · rename_i e; subst e; exact ih G' a' w' R' (hd'.trans hdf)
          · cases hk
        | exit id => cases hk
        | ret => cases hk
        | panic v => cases hk
      · rw [if_neg (by simp [hw])]
        split at g1
        · rename_i e; subst e; exact ih G _ w R1 ((Act.put_defers' _ _ _).trans hdf)
        · cases g1

/-- The region, by what is reached. -/
theorem region_ideals (htt : TTok P tt) (hm : P.follows .mixedOrders = true) {hd : Hd} (hh : HdOk P hd) {F : Fra} {cst : List (Array Value)} {kb : Nat} (hkb : ∀ d, F.mu0 (kb + d) = none) {id : Nat} {ops : Array Oper} {Q : Exit → Act → World → Prop}
    (st : Array Bool → AS) (hok : okI ops ops.size 0 = true) (hs : AllP (fun p => ∀ K, stepI tt hd kb ops p.2 (st p.1) K = K (st (p.1.setIfInBounds p.2 true))) (pairsI ops))
    {G : Gh} {a : Act} {w : World} (R : Rel F G (st (Array.replicate ops.size false)) a.tmps cst w)
    (hQ : ∀ L ∈ levI ops ops.size, ∀ G' a' w', Rel F G' (st L) a'.tmps cst w' → a'.defers = a.defers → Q .normal a' w') : (Code.region id ops true).wp P Q a w := by
  refine wp_region_any hm ?_
  refine ideals_sound htt hh hkb st (fun n hn L hL i hi K => hs.mem (L, i) ?_ K) hQ ops.size 0 (by omega) hok _ (by simp [levI]) G a _ R.drew rfl
  simp only [pairsI, List.mem_flatMap, List.mem_range, nextI, List.mem_map]
  exact ⟨n, hn, L, hL, i, hi, rfl⟩
end
end

end Go.Proofs.Ytnppjkijhcampaa.Sym

/- Calls of functions that only compute: the caller's state stays as it was, lists that nothing else leans on may be looked at, and the list that is handed out is leant on by nothing. -/
namespace Go.Proofs.Ytnppjkijhcampaa.Sym
open Go
set_option linter.unusedSimpArgs false
set_option linter.unusedVariables false

/-! ## lists that nothing leans on, seen as data for a while -/
def C.thaw : C → C
  | .ex e t lo xs i j => bif Nat.beq lo 0 then .lst e t xs 0 else .top
  | .eel _ _ _ _ _ => .top
  | .lst e t xs _ => .lst e t xs 0
  | .ptr _ _ => .top
  | .fn _ _ => .top
  | c => c
def V.thaw : V → V
  | .one c => .one c.thaw
  | .agg cs => .agg (cs.map C.thaw)
  | _ => .any
/-- Types that lean on no memory. -/
def Ty.flatB : Ty → Bool
  | .sl _ _ => false
  | .prod a b => a.flatB && b.flatB
  | _ => true
theorem Rt.flat {S S' : Nat → Nat → Prop} {w w' : World} : ∀ (t : Ty) (x : t.den) (cs : List Value), t.flatB = true → Rt S w t x cs → Rt S' w' t x cs
  | .int _, _, _, _, h => h
  | .bool, _, _, _, h => h
  | .str, _, _, _, h => h
  | .unit, _, _, _, h => h
  | .prod a b, _, _, hf, ⟨c1, c2, e, h1, h2⟩ => by
    simp only [Ty.flatB, Bool.and_eq_true] at hf
    exact ⟨c1, c2, e, Rt.flat a _ _ hf.1 h1, Rt.flat b _ _ hf.2 h2⟩
  | .sl _ _, _, _, hf, _ => by cases hf
/-- What is handed out: flat, or a list of its own. -/
def hardC : C → Option C
  | .int k n => some (.int k n)
  | .bool b => some (.bool b)
  | .str s => some (.str s)
  | .lst e t xs own => bif !(own == 0) && t.flatB then some (.ex e t 0 xs own own) else none
  | _ => none
def hardCs : List C → Option (List C)
  | [] => some []
  | c :: cs => match hardC c, hardCs cs with
    | some c, some cs => some (c :: cs)
    | _, _ => none
def hardPs : List (Bool × List C) → Option (List (Bool × List C))
  | [] => some []
  | p :: ps => match hardCs p.2, hardPs ps with
    | some cs, some ps => some ((p.1, cs) :: ps)
    | _, _ => none
def hardV : V → Option V
  | .one c => (hardC c).map .one
  | .agg cs => (hardCs cs).map .agg
  | .tup ps => (hardPs ps).map .tup
  | .any => none
def ownsC : C → List Nat
  | .lst _ _ _ own => [own]
  | _ => []
def ownsV : V → List Nat
  | .one c => ownsC c
  | .agg cs => cs.flatMap ownsC
  | .tup ps => ps.flatMap fun p => p.2.flatMap ownsC
  | .any => []
/-- All are i. -/
def allI (i : Nat) : List Nat → Bool
  | [] => true
  | j :: js => Nat.beq j i && allI i js

noncomputable section
def pureHd (h : Hc) : Hc := fun _ args id A K => h _ (args.map V.thaw) id ⟨[], [], []⟩ fun oc _ => match oc with
  | .ret v _ => match hardV v, ownsV v with
    | some v', [] => v'.force fun v' => K (.ret v' (some [])) A
    | some v', i :: is => bif !(i == 0) && allI i is then v'.force fun v' => (A.map (C.noOwn i)).force fun A => K (.ret v' (some [])) A else none
    | none, _ => none
  | .pan _ => none

/-! ## soundness -/
/-- A world with new blocks behind. -/
structure Grown (w w' : World) : Prop where
  os : w'.os = w.os
  tape : w'.tape = w.tape
  output : w'.output = w.output
  size : w.heap.size ≤ w'.heap.size
  old : ∀ k, k < w.heap.size → w'.heap[k]? = w.heap[k]?
theorem Grown.cell {w w' : World} (g : Grown w w') {b o : Nat} (hb : b < w.heap.size) : w'.cell? ⟨b, o, none⟩ = w.cell? ⟨b, o, none⟩ := by
  simp [World.cell?, g.old b hb]

section
variable {F : Fra} {G : Gh} {w w' : World}
/-- The caller's ghost, with one block more that i owns. -/
def Gh.owned (G : Gh) (i : Nat) (o : Option Nat) : Gh := ⟨G.S, G.mu, fun j => if j = i then o.map (·, 0) else G.ow j⟩
theorem Goes.grown (h : GhOk F G w) (g : Grown w w') (i : Nat) (o : Option Nat) : Goes G (G.owned i o) w w' none (some i) where
  kept := fun b p hs => ⟨hs, g.cell (h.sB b p hs)⟩
  mu := fun _ _ hb _ => hb
  ow := fun j b l hj hne => by
    have : j ≠ i := fun e => hne (by rw [e])
    exact ⟨by simp [Gh.owned, this, hj], g.old b (h.ow j b l hj).2.2.1⟩
theorem GhOk.grown (h : GhOk F G w) (g : Grown w w') (i : Nat) (o : Option Nat) (ho : ∀ b, o = some b → w.heap.size ≤ b ∧ b < w'.heap.size) : GhOk F (G.owned i o) w' where
  mu := fun key b hb => let ⟨h1, h2, h3⟩ := h.mu key b hb; ⟨h1, h2, Nat.lt_of_lt_of_le h3 g.size⟩
  muI := h.muI
  ow := fun j b l hj => by
    simp only [Gh.owned] at hj ⊢
    split at hj
    · cases o with
      | none => cases hj
      | some b0 =>
        simp only [Option.map_some, Option.some.injEq, Prod.mk.injEq] at hj
        obtain ⟨rfl, rfl⟩ := hj
        obtain ⟨h1, h2⟩ := ho b0 rfl
        exact ⟨fun p _ hs => by have := h.sB _ _ hs; omega, .inl (Nat.le_trans h.fr.size h1), h2, fun key hk => by have := (h.mu key _ hk).2.2; omega⟩
    · obtain ⟨h1, h2, h3, h4⟩ := h.ow j b l hj
      exact ⟨h1, h2, Nat.lt_of_lt_of_le h3 g.size, h4⟩
  owI := fun j k b l l' hj hk => by
    simp only [Gh.owned] at hj hk
    have hb : ∀ b l, o.map (·, 0) = some (b, l) → w.heap.size ≤ b := fun b l e => by
      cases o with
      | none => cases e
      | some b0 => cases e; exact (ho _ rfl).1
    split at hj <;> split at hk
    · rename_i e1 e2; exact e1.trans e2.symm
    · have := hb _ _ hj; have := (h.ow k _ _ hk).2.2.1; omega
    · have := hb _ _ hk; have := (h.ow j _ _ hj).2.2.1; omega
    · exact h.owI j k b l l' hj hk
  sB := fun b p hs => Nat.lt_of_lt_of_le (h.sB b p hs) g.size
  fr := h.fr.alloc g.os g.tape g.output g.size g.old
  sub := h.sub
  sup := h.sup
  keep := fun b p hs => (g.cell (h.sB b p (h.sub b p hs))).trans (h.keep b p hs)
  fix_ := h.fix_
theorem Rel.grown {A : AS} {ts : Array Value} {cst : List (Array Value)} (R : Rel F G A ts cst w) (g : Grown w w') (i : Nat) (o : Option Nat) (ho : ∀ b, o = some b → w.heap.size ≤ b ∧ b < w'.heap.size) : Rel F (G.owned i o) (A.map (C.noOwn i)) ts cst w' :=
  R.map (fun c v h => h.noOwn (Goes.grown R.gh g i o)) (fun _ => rfl) (fun key b hb => ⟨hb, g.old b (R.gh.mu key b hb).2.2⟩) (R.gh.grown g i o ho)
theorem Goes.grown0 (h : GhOk F G w) (g : Grown w w') : Goes G G w w' none none where
  kept := fun b p hs => ⟨hs, g.cell (h.sB b p hs)⟩
  mu := fun _ _ hb _ => hb
  ow := fun j b l hj _ => ⟨hj, g.old b (h.ow j b l hj).2.2.1⟩
theorem Rel.grown0 {A : AS} {ts : Array Value} {cst : List (Array Value)} (R : Rel F G A ts cst w) (g : Grown w w') : Rel F G A ts cst w' := by
  have h0 : GhOk F G w' := by
    refine ⟨fun key b hb => ?_, R.gh.muI, fun j b l hj => ?_, R.gh.owI, fun b p hs => Nat.lt_of_lt_of_le (R.gh.sB b p hs) g.size, R.gh.fr.alloc g.os g.tape g.output g.size g.old, R.gh.sub, R.gh.sup, fun b p hs => (g.cell (R.gh.sB b p (R.gh.sub b p hs))).trans (R.gh.keep b p hs), R.gh.fix_⟩
    · obtain ⟨h1, h2, h3⟩ := R.gh.mu key b hb
      exact ⟨h1, h2, Nat.lt_of_lt_of_le h3 g.size⟩
    · obtain ⟨h1, h2, h3, h4⟩ := R.gh.ow j b l hj
      exact ⟨h1, h2, Nat.lt_of_lt_of_le h3 g.size, h4⟩
  have := R.map (f := id) (fun c v h => h.goes (Goes.grown0 R.gh g) (fun _ e => by cases e) (fun _ e => by cases e)) (fun _ => rfl) (fun key b hb => ⟨hb, g.old b (R.gh.mu key b hb).2.2⟩) h0
  rwa [AS.map_id] at this

/-! ### the callee's ghost -/
def thawS (G : Gh) : Nat → Nat → Prop := fun b o => G.S b o ∨ ∃ i, G.ow i = some (b, 0)
def thawGh (G : Gh) : Gh := ⟨thawS G, fun _ => none, fun _ => none⟩
def thawFra (G : Gh) (w : World) : Fra := ⟨w, fun _ => False, thawS G, fun _ => none⟩
theorem thaw_rel (h : GhOk F G w) : Rel (thawFra G w) (thawGh G) ⟨[], [], []⟩ #[] [] w := by
  have hs : ∀ b o, thawS G b o → b < w.heap.size := by
    rintro b o (hs | ⟨i, hi⟩)
    · exact h.sB b o hs
    · exact (h.ow i b 0 hi).2.2.1
  have hg : GhOk (thawFra G w) (thawGh G) w :=
    { mu := fun _ _ h => by cases h
      muI := fun _ _ _ h => by cases h
      ow := fun _ _ _ h => by cases h
      owI := fun _ _ _ _ _ h => by cases h
      sB := hs
      fr := ⟨rfl, rfl, rfl, Nat.le_refl _, fun _ _ _ => rfl⟩
      sub := fun _ _ h => h
      sup := fun _ _ h => .inl h
      keep := fun _ _ _ => rfl
      fix_ := fun _ _ h => by cases h }
  exact ⟨trivial, trivial, fun k cs hk => by simp at hk, hg⟩
theorem thawK (G : Gh) (w : World) : Kept G.S (thawGh G).S w w := fun _ _ h => ⟨.inl h, rfl⟩
theorem C.thaw_sound {c : C} {v : Value} (h : Rc G w c v) : Rc (thawGh G) w c.thaw v := by
  have hcell := h.cell
  cases c with
  | ex e t lo xs i j =>
    simp only [C.thaw]
    cases hl : Nat.beq lo 0 with
    | false => exact hcell
    | true =>
      have hl := Nat.eq_of_beq_eq_true hl
      subst hl
      simp only [cond_true]
      rcases h with ⟨_, rfl, rfl⟩ | ⟨b, cap, rfl, ⟨_, _, ho⟩, cur, el, hh, h1, h2, h3, h4⟩
      · exact ⟨none, 0, rfl, Nat.le_refl _, by simp [maxLen], fun hne => absurd rfl hne, .inl rfl⟩
      · rw [Nat.zero_add] at h2 ⊢
        refine ⟨_, cap, rfl, h2, h3, fun _ => ⟨b, 0, rfl, fun k x hx => ?_⟩, .inl rfl⟩
        obtain ⟨c, hc, hu⟩ := h4 k x hx
        refine ⟨c, Rt.kept (thawK G w) t x c hc, fun q u hq => ?_⟩
        have := hu q u hq
        rw [Nat.zero_add] at this ⊢
        refine ⟨.inr (by rcases ho with h | h; exact ⟨_, h⟩; exact ⟨_, h⟩), ?_⟩
        rw [cell_at hh, Array.getElem?_toList]
        exact this
  | eel t k x i j => exact hcell
  | lst e t xs own =>
    obtain ⟨A, cap, e, h1, h2, h3, _⟩ := h
    exact ⟨A, cap, e, h1, h2, h3.kept (thawK G w), .inl rfl⟩
  | ptr k o => exact hcell
  | fn f caps => exact hcell
  | ro t x =>
    obtain ⟨b, o, cs, e, h1, h2⟩ := h
    exact ⟨b, o, cs, e, Rt.kept (thawK G w) t x cs h1, h2.kept (thawK G w)⟩
  | ifc T t x =>
    obtain ⟨u, e, hu, ha⟩ := h
    exact ⟨u, e, Rt.kept (thawK G w) t x _ hu, ha⟩
  | pin v0 t x => exact ⟨h.1, Rt.kept (thawK G w) t x _ h.2⟩
  | _ => exact h
theorem V.thaw_sound {x : V} {v : Value} (h : Rv G w x v) : Rv (thawGh G) w x.thaw v := by
  cases x with
  | one c => exact C.thaw_sound h
  | agg cs =>
    obtain ⟨vs, e, hv⟩ := h
    exact ⟨vs, e, hv.map_left _ fun a b h => C.thaw_sound h⟩
  | tup ps => trivial
  | any => trivial

/-! ### what is handed out -/
variable {G' : Gh}
def OwnsTo (G' H : Gh) (l : List Nat) : Prop := ∀ j ∈ l, j ≠ 0 ∧ ∀ b n, G'.ow j = some (b, n) → H.ow j = some (b, 0)
theorem OwnsTo.l {H : Gh} {l l' : List Nat} (h : OwnsTo G' H (l ++ l')) : OwnsTo G' H l := fun j hj => h j (List.mem_append_left _ hj)
theorem OwnsTo.r {H : Gh} {l l' : List Nat} (h : OwnsTo G' H (l ++ l')) : OwnsTo G' H l' := fun j hj => h j (List.mem_append_right _ hj)
theorem hardC_sound {H : Gh} {c c' : C} {v : Value} (hc : hardC c = some c') (ho : OwnsTo G' H (ownsC c)) (h : Rc G' w' c v) : Rc H w' c' v := by
  cases c <;> simp only [hardC] at hc <;> try cases hc
  case int => exact h
  case bool => exact h
  case str => exact h
  case lst e t xs own =>
    cases hz : !(own == 0) && t.flatB with
    | false => rw [hz] at hc; cases hc
    | true =>
      rw [hz] at hc
      simp only [cond_true, Option.some.injEq] at hc
      subst hc
      simp only [Bool.and_eq_true, Bool.not_eq_true', beq_eq_false_iff_ne] at hz
      obtain ⟨hi, hown⟩ := ho own (by simp [ownsC])
      obtain ⟨A, cap, rfl, h1, h2, hrow, hO⟩ := h
      rcases hO with hO | ⟨rfl, rfl⟩ | ⟨b, cur, el, rfl, how, hh, hcs⟩
      · exact absurd hO hz.1
      · have : xs = [] := List.eq_nil_of_length_eq_zero (by omega)
        subst this
        exact .inl ⟨rfl, rfl, rfl⟩
      · refine .inr ⟨b, cap, by rw [Nat.zero_add], ⟨hi, hi, .inl (hown b _ how)⟩, cur, el, hh, hcs, by rw [Nat.zero_add]; exact h1, h2, fun k x hx => ?_⟩
        obtain ⟨b', o', c, e', hc, ha⟩ := hrow.cellAt hx
        cases e'
        refine ⟨c, Rt.flat t x c hz.2 hc, fun q u hq => ?_⟩
        have := (ha q u hq).2
        rw [cell_at hh, Array.getElem?_toList] at this
        rw [Nat.zero_add] at this ⊢
        exact this
theorem hardCs_sound {H : Gh} : ∀ {cs cs' : List C} {vs : List Value}, hardCs cs = some cs' → OwnsTo G' H (cs.flatMap ownsC) → All2 (Rc G' w') cs vs → All2 (Rc H w') cs' vs
  | [], cs', vs, h, _, hv => by simp only [hardCs, Option.some.injEq] at h; subst h; cases vs <;> exact hv
  | c :: cs, cs', [], h, _, hv => hv.elim
  | c :: cs, cs', v :: vs, h, ho, hv => by
    simp only [hardCs] at h
    split at h
    · rename_i c' cs'' h1 h2
      cases h
      rw [List.flatMap_cons] at ho
      exact ⟨hardC_sound h1 ho.l hv.1, hardCs_sound h2 ho.r hv.2⟩
    · cases h
theorem hardCs_one {c : C} {cs' : List C} (h : hardCs [c] = some cs') : ∃ c', hardC c = some c' ∧ cs' = [c'] := by
  simp only [hardCs] at h
  cases hc : hardC c with
  | none => rw [hc] at h; cases h
  | some c' => rw [hc] at h; cases h; exact ⟨c', rfl, rfl⟩
theorem hardPs_sound {H : Gh} : ∀ {ps ps' : List (Bool × List C)} {us : List Value}, hardPs ps = some ps' → OwnsTo G' H (ps.flatMap fun p => p.2.flatMap ownsC) → All2 (RcOne G' w') ps us → All2 (RcOne H w') ps' us
  | [], ps', us, h, _, hv => by simp only [hardPs, Option.some.injEq] at h; subst h; cases us <;> exact hv
  | p :: ps, ps', [], h, _, hv => hv.elim
  | (b, cs0) :: ps, ps', u :: us, h, ho, hv => by
    simp only [hardPs] at h
    split at h
    · rename_i cs ps'' h1 h2
      cases h
      rw [List.flatMap_cons] at ho
      refine ⟨?_, hardPs_sound h2 ho.r hv.2⟩
      have o1 := ho.l
      rcases hv.1 with ⟨e1, vs, e2, h3⟩ | ⟨e1, c, e2, h3⟩
      · exact .inl ⟨e1, vs, e2, hardCs_sound h1 o1 h3⟩
      · simp only at e2
        subst e2
        obtain ⟨c', hc', rfl⟩ := hardCs_one h1
        exact .inr ⟨e1, c', rfl, hardC_sound hc' (by simpa using o1) h3⟩
    · cases h
theorem hardV_sound {H : Gh} {x x' : V} {v : Value} (hx : hardV x = some x') (ho : OwnsTo G' H (ownsV x)) (h : Rv G' w' x v) : Rv H w' x' v := by
  cases x with
  | one c =>
    obtain ⟨c', hc, rfl⟩ := Option.map_eq_some_iff.1 hx
    exact hardC_sound hc ho h
  | agg cs =>
    obtain ⟨cs', hc, rfl⟩ := Option.map_eq_some_iff.1 hx
    obtain ⟨vs, e, hv⟩ := h
    exact ⟨vs, e, hardCs_sound hc ho hv⟩
  | tup ps =>
    obtain ⟨ps', hc, rfl⟩ := Option.map_eq_some_iff.1 hx
    obtain ⟨us, e, hv⟩ := h
    exact ⟨us, e, hardPs_sound hc ho hv⟩
  | any => cases hx
theorem allI_mem {i : Nat} : ∀ {l : List Nat}, allI i l = true → ∀ j ∈ l, j = i
  | [], _, j, hj => by cases hj
  | m :: l, h, j, hj => by
    simp only [allI, Bool.and_eq_true] at h
    rcases List.mem_cons.1 hj with rfl | hj
    · exact Nat.eq_of_beq_eq_true h.1
    · exact allI_mem h.2 j hj
end

theorem pure_sound {P : Program} {f : Nat} {h : Hc} (hok : HcOk P f h) : HcOk P f (pureHd h) := by
  intro R args id A K r F G ts cst w vals hid hrun Rl hv
  have hthaw : ∀ {vs : List V} {us : List Value}, All2 (Rv G w) vs us → All2 (Rv (thawGh G) w) (vs.map V.thaw) us := fun hh => hh.map_left _ fun a b h => V.thaw_sound h
  obtain ⟨hfn, hcalls⟩ := hok R (args.map V.thaw) id ⟨[], [], []⟩ _ r (thawFra G w) (thawGh G) #[] [] w vals (fun _ => rfl) hrun (thaw_rel Rl.gh) (hthaw hv)
  refine ⟨hfn, hcalls.mono ?_⟩
  rintro e w' ⟨G', A', v, u, R', hu, ⟨he, ks, _, hk⟩ | ⟨_, hk⟩⟩
  · have hg : Grown w w' := ⟨R'.gh.fr.os, R'.gh.fr.tape, R'.gh.fr.output, R'.gh.fr.size, fun k hk => R'.gh.fr.block k hk (fun h => h)⟩
    have hfresh : ∀ i b l, G'.ow i = some (b, l) → w.heap.size ≤ b ∧ b < w'.heap.size := fun i b l hi => by
      obtain ⟨_, h2, h3, _⟩ := R'.gh.ow i b l hi
      exact ⟨by rcases h2 with h | h; exact h; exact h.elim, h3⟩
    simp only [V.force_eq, AS.force_eq] at hk
    split at hk
    · rename_i v' hv' ho
      have R2 := Rl.grown0 hg
      exact ⟨G, A, v', u, R2, hardV_sound hv' (fun j hj => by rw [ho] at hj; cases hj) hu, .inl ⟨he, some [], ⟨(Goes.grown0 Rl.gh hg).kept, fun key b _ hb => ⟨hb, hg.old b (Rl.gh.mu key b hb).2.2⟩⟩, hk⟩⟩
    · rename_i v' i is hv' ho
      cases hz : !(i == 0) && allI i is with
      | false => rw [hz] at hk; cases hk
      | true =>
        rw [hz] at hk
        simp only [cond_true] at hk
        simp only [Bool.and_eq_true, Bool.not_eq_true', beq_eq_false_iff_ne] at hz
        have hall : allI i (ownsV v) = true := by rw [ho]; simp [allI, hz.2]
        have hob : ∀ b, (G'.ow i).map (·.1) = some b → w.heap.size ≤ b ∧ b < w'.heap.size := fun b hb => by
          obtain ⟨p, hp, rfl⟩ := Option.map_eq_some_iff.1 hb
          exact hfresh i p.1 p.2 hp
        refine ⟨_, _, v', u, Rl.grown hg i ((G'.ow i).map (·.1)) hob, hardV_sound hv' (fun j hj => by
          have := allI_mem hall j hj
          subst this
          exact ⟨hz.1, fun b n hb => by simp [Gh.owned, hb]⟩) hu, .inl ⟨he, some [], ⟨(Goes.grown Rl.gh hg i _).kept, fun key b _ hb => ⟨hb, hg.old b (Rl.gh.mu key b hb).2.2⟩⟩, hk⟩⟩
    · cases hk
  · cases hk
end
end Go.Proofs.Ytnppjkijhcampaa.Sym

/- Lists that nothing leans on, written over: what a step by hand needs. -/
namespace Go.Proofs.Ytnppjkijhcampaa.Sym
open Go
set_option linter.unusedSimpArgs false
set_option linter.unusedVariables false
noncomputable section

/-- Operations that leave the world alone, in order. -/
def evPs (tt : TT) (kb : Nat) (ops : Array Oper) : List Nat → AS → Option AS
  | [], A => some A
  | i :: is, A => match ops[i]? with
    | none => none
    | some o => match o.guard with
      | some _ => none
      | none => match evP tt (idTmp kb (o.dst.getD 0)) A o.type o.op with
        | some (chk, v) => bif chk then evPs tt kb ops is (A.put o.dst v) else none
        | none => match o.op with
          | .load t x => match opd A x with
            | .one (.eel t' k d i j) => bif t'.size == (tt.at t).size then (match partV tt t (toCs t' d) with
                | some v => evPs tt kb ops is (A.put o.dst v)
                | none => none) else none
            | _ => none
          | _ => none
theorem load_eel_run {P : Program} {tt : TT} (htt : TTok P tt) {G : Gh} {w : World} {a : Act} {x : Operand} {t k i j : Nat} {t' : Ty} {d : t'.den} {v : V} (hz : (t'.size == (tt.at t).size) = true) (hp : partV tt t (toCs t' d) = some v) (hx : Rc G w (.eel t' k d i j) (a.eval x)) :
    ∃ u, Rv G w v u ∧ ∀ o : Oper, o.op = .load t x → (execOp a.eval o).run P w = .ok (.value u) w := by
  obtain ⟨b, cap, eu, _, cur, el, hh, _, _, _, h4⟩ := hx
  obtain ⟨cs, hr, hu⟩ := h4 0 d rfl
  have h2 := toCs_sound t' d cs hr
  obtain ⟨u, hru, hrv⟩ := run_loadVar_at (P := P) (b := b) (o := k * t'.size) htt hp h2 (by rw [h2.length, Rt.len _ _ _ hr]; simpa using hz) (fun j u hj => by
    rw [cell_at hh]
    have := hu j u hj
    simpa using this)
  exact ⟨u, hrv, fun o ho => by simp [execOp, ho, Instr.loadAt, eu, Instr.sureAddr, hru]⟩
theorem evPs_sound {P : Program} {tt : TT} (htt : TTok P tt) {F : Fra} {G : Gh} {cst : List (Array Value)} {w : World} {kb : Nat} {ops : Array Oper} {Q : Exit → Act → World → Prop} :
    ∀ {is rest : List Nat} {A A' : AS} {a : Act}, evPs tt kb ops is A = some A' → Rel F G A a.tmps cst w →
      (∀ a', Rel F G A' a'.tmps cst w → a'.defers = a.defers → wpOps P ops Q rest a' w) → wpOps P ops Q (is ++ rest) a w
  | [], rest, A, A', a, h, R, hK => by
    simp only [evPs, Option.some.injEq] at h
    subst h
    exact hK a R rfl
  | i :: is, rest, A, A', a, h, R, hK => by
    simp only [evPs] at h
    simp only [List.cons_append, wpOps]
    cases ho : ops[i]? with
    | none => rw [ho] at h; cases h
    | some o =>
      rw [ho] at h
      simp only at h ⊢
      cases hg : o.guard with
      | some g => rw [hg] at h; cases h
      | none =>
        rw [hg] at h
        simp only at h
        rw [if_pos (by simp [Region.wanted, hg])]
        refine .inl ?_
        unfold Oper.wp
        have fin : ∀ v u, Rv G w v u → evPs tt kb ops is (A.put o.dst v) = some A' → wpOps P ops Q (is ++ rest) (a.put o.dst u) w := fun v u hv h' =>
          evPs_sound htt h' (R.puts hv o.dst) fun a' R' hd' => hK a' R' (hd'.trans (Act.put_defers' _ _ _))
        split at h
        · rename_i chk v he
          cases chk with
          | false => cases h
          | true =>
            obtain ⟨u, hu, hv⟩ := evP_sound htt (fun x => R.opd x) R.ob o he rfl
            rw [hu, Oper.upon_value]
            exact fin v u hv h
        · split at h
          · rename_i t x hop
            split at h
            · rename_i t' k d i' j e1
              cases hz : t'.size == (tt.at t).size with
              | false => rw [hz] at h; cases h
              | true =>
                rw [hz] at h
                simp only [cond_true] at h
                split at h
                · rename_i v hp
                  have hx := R.opd x
                  rw [e1] at hx
                  obtain ⟨u, hv, hr⟩ := load_eel_run (P := P) htt hz hp hx
                  rw [hr o hop, Oper.upon_value]
                  exact fin v u hv h
                · cases h
            · cases h
          · cases h

/-! ## the first elements written over -/
def spOver (lo : Nat) (zs xs : List Int) : List Int := (zs.drop lo).take xs.length ++ xs.drop (zs.length - lo)
def C.over (i : Nat) (zs : List Int) : C → C
  | .lst e t xs own => .lst e t xs (bif own == i then 0 else own)
  | .ex e t lo xs a b => bif !(a == i) && !(b == i) then .ex e t lo xs a b else
      (if h : t = .int .u8 then (bif (a == i) && (b == i) then .ex e (.int .u8) lo (spOver lo zs (h ▸ xs : List (Ty.int .u8).den)) a b
        else bif Nat.beq lo 0 then .ex e (.int .u8) zs.length (List.drop zs.length (h ▸ xs : List (Ty.int .u8).den)) a b else .top) else .top)
  | .eel t k x a b => bif !(a == i) && !(b == i) then .eel t k x a b else .top
  | c => c
/-- The lists that may lie in that block and must be long enough. -/
def C.longs (i : Nat) : C → List Nat
  | .ex _ _ _ xs a b => bif (!(a == i) && !(b == i)) || ((a == i) && (b == i)) then [] else [xs.length]
  | _ => []
def spT (x : Int) : Int := spXor .u8 x 90
/-- leatref01.Spoil. -/
def spoilHd : Hc := fun _ args _ A K => match args with
  | [.one (.ex _ t lo xs i j)] => bif Nat.beq i j && Nat.beq lo 0 then (if h : t = .int .u8 then
      (bif allGe xs.length (A.coll (C.longs i)) then (A.map (C.over i (List.map spT (h ▸ xs : List (Ty.int .u8).den)))).force fun A => K (.ret (.tup []) (some [])) A else none) else none) else none
  | _ => none

theorem spOver_length (lo : Nat) (zs xs : List Int) : (spOver lo zs xs).length = xs.length := by simp [spOver]; omega
theorem spOver_get (lo : Nat) (zs xs : List Int) (k : Nat) (x : Int) (h : (spOver lo zs xs)[k]? = some x) : (lo + k < zs.length ∧ zs[lo + k]? = some x) ∨ (zs.length ≤ lo + k ∧ xs[k]? = some x) := by
  have hk : k < xs.length := by rw [← spOver_length lo zs xs]; exact (List.getElem?_eq_some_iff.1 h).1
  unfold spOver at h
  rw [List.getElem?_append] at h
  split at h
  · rename_i hlt
    simp at hlt
    rw [List.getElem?_take, if_pos hk, List.getElem?_drop] at h
    exact .inl ⟨by omega, h⟩
  · rename_i hlt
    simp at hlt
    rw [List.getElem?_drop] at h
    refine .inr ⟨by omega, ?_⟩
    rw [← h]
    congr 1
    simp
    omega
theorem spOver_self {zs xs : List Int} (h : zs.length = xs.length) : spOver 0 zs xs = zs := by
  simp [spOver, h]
  rw [← h]; simp

/-- The bytes at the head of the block of i are zs now. -/
theorem Rel.over {F : Fra} {G : Gh} {A : AS} {ts : Array Value} {cst : List (Array Value)} {w w' : World} (R : Rel F G A ts cst w) {b i : Nat} {zs : List Int} {cur cur' : Array Value} {el : TypeId}
    (ho : G.ow i = some (b, 0)) (hwr : Wrote w w' b) (hh : w.heap[b]? = some (.cells cur el (0, 0))) (hh' : w'.heap[b]? = some (.cells cur' el (0, 0))) (hsz : cur'.size = cur.size)
    (hlow : ∀ (k : Nat) (z : Int), zs[k]? = some z → cur'[k]? = some (Value.int .u8 z) ∧ inR .u8 z) (hhigh : ∀ q : Nat, zs.length ≤ q → cur'[q]? = cur[q]?) (hg : allGe zs.length (A.coll (C.longs i)) = true) : Rel F G (A.map (C.over i zs)) ts cst w' := by
  have R0 := R
  rw [← AS.upto_eq (allGe_splits _) hg] at R0
  have e : (A.map (C.upto (C.longs i) (allGe zs.length))).map (C.over i zs) = A.map (C.over i zs) := by rw [AS.upto_eq (allGe_splits _) hg]
  -- by cells
  have hk := (Goes.exWrote R.gh ho hwr).kept
  have key : ∀ c v, Rc G w c v → allGe zs.length (c.longs i) = true → Rc G w' (c.over i zs) v := by
    intro c v hc hl
    have hcell := hc.cell
    have go := Goes.exWrote R.gh ho hwr
    cases c with
    | lst e t xs own =>
      have h0 := hc.beyond R.gh ho hwr hh hh' hsz (fun t2 lo2 xs2 i2 j2 cap2 hform _ => by rcases hform with ⟨h, _⟩ | ⟨_, h⟩ <;> cases h)
      simp only [C.over]
      obtain ⟨A', cap, e0, h1, h2, h3, h4⟩ := h0
      refine ⟨A', cap, e0, h1, h2, h3, ?_⟩
      cases hb : own == i with
      | true => exact .inl rfl
      | false => exact h4
    | ex e t lo xs a b' =>
      simp only [C.over]
      cases hn : !(a == i) && !(b' == i) with
      | true =>
        simp only [cond_true]
        simp only [Bool.and_eq_true, Bool.not_eq_true', beq_eq_false_iff_ne] at hn
        exact hc.goes go (fun _ e => by cases e) (fun j e => by cases e; simp [C.hasOwn, hn.1, hn.2])
      | false =>
        simp only [cond_false]
        split
        · rename_i ht
          subst ht
          simp only
          cases hy : (a == i) && (b' == i) with
          | true =>
            simp only [cond_true]
            simp only [Bool.and_eq_true, beq_iff_eq] at hy
            obtain ⟨rfl, rfl⟩ := hy
            have hlen := spOver_length lo zs xs
            rcases hc with ⟨rfl, rfl, e0⟩ | ⟨bl, cap, e0, ⟨n1, n2, ho2⟩, cu, el2, hb2, h1, h2, h3, h4⟩
            · exact .inl ⟨rfl, List.eq_nil_of_length_eq_zero hlen, e0⟩
            · have hbb : bl = b := by rcases ho2 with h | h <;> (rw [ho] at h; cases h; rfl)
              subst hbb
              rw [hh] at hb2; cases hb2
              have hlen' : List.length (α := (Ty.int .u8).den) (spOver lo zs xs) = xs.length := hlen
              refine .inr ⟨bl, cap, by rw [hlen']; exact e0, ⟨n1, n2, ho2⟩, cur', el, hh', hsz.trans h1, by rw [hlen']; exact h2, h3, fun k x hx => ?_⟩
              rcases spOver_get lo zs xs k x hx with ⟨hlt, hz⟩ | ⟨hge, hxk⟩
              · obtain ⟨g1, g2⟩ := hlow _ _ hz
                refine ⟨[.int .u8 x], ⟨rfl, g2⟩, fun q u hq => ?_⟩
                cases q with
                | succ q => simp at hq
                | zero =>
                  simp only [List.getElem?_cons_zero, Option.some.injEq] at hq
                  subst hq
                  simpa [Ty.size] using g1
              · obtain ⟨c, hcr, hu⟩ := h4 k x hxk
                refine ⟨c, Rt.kept hk _ _ _ hcr, fun q u hq => ?_⟩
                have hqs : q < 1 := by have := Rt.len _ _ _ hcr; rw [show (Ty.int .u8).size = 1 from rfl] at this; rw [← this]; exact (List.getElem?_eq_some_iff.1 hq).1
                have := hu q u hq
                rw [hhigh _ (by simp only [Ty.size]; omega)]
                exact this
          | false =>
            simp only [cond_false]
            simp only [C.longs, hn, hy, Bool.or_self, cond_false, allGe, Bool.and_true, decide_eq_true_eq] at hl
            cases hlo : Nat.beq lo 0 with
            | false => exact hcell
            | true =>
              simp only [cond_true]
              have hlo := Nat.eq_of_beq_eq_true hlo
              subst hlo
              rcases hc with ⟨_, rfl, e0⟩ | ⟨bl, cap, e0, ⟨n1, n2, ho2⟩, cu, el2, hb2, h1, h2, h3, h4⟩
              · have : zs = [] := List.eq_nil_of_length_eq_zero (by simpa using hl)
                subst this
                exact .inl ⟨rfl, rfl, e0⟩
              · have hdl : zs.length + (List.drop zs.length xs).length = 0 + xs.length := by simp; omega
                by_cases hbb : bl = b
                · subst hbb
                  rw [hh] at hb2; cases hb2
                  refine .inr ⟨bl, cap, by rw [hdl]; exact e0, ⟨n1, n2, ho2⟩, cur', el, hh', hsz.trans h1, by rw [hdl]; exact h2, h3, fun k x hx => ?_⟩
                  rw [List.getElem?_drop] at hx
                  obtain ⟨c, hcr, hu⟩ := h4 _ x hx
                  refine ⟨c, Rt.kept hk _ _ _ hcr, fun q u hq => ?_⟩
                  have := hu q u hq
                  rw [hhigh _ (by simp only [Ty.size]; omega)]
                  rw [Nat.zero_add] at this
                  exact this
                · refine .inr ⟨bl, cap, by rw [hdl]; exact e0, ⟨n1, n2, ho2⟩, cu, el2, (hwr.other bl hbb).trans hb2, h1, by rw [hdl]; exact h2, h3, fun k x hx => ?_⟩
                  rw [List.getElem?_drop] at hx
                  obtain ⟨c, hcr, hu⟩ := h4 _ x hx
                  refine ⟨c, Rt.kept hk _ _ _ hcr, fun q u hq => ?_⟩
                  have := hu q u hq
                  rw [Nat.zero_add] at this
                  exact this
        · exact hcell
    | eel t' k' x a b' =>
      simp only [C.over]
      cases hn : !(a == i) && !(b' == i) with
      | true =>
        simp only [cond_true]
        simp only [Bool.and_eq_true, Bool.not_eq_true', beq_eq_false_iff_ne] at hn
        exact hc.goes go (fun _ e => by cases e) (fun j e => by cases e; simp [C.hasOwn, hn.1, hn.2])
      | false => exact hcell
    | ro t x => exact hc.goes go (fun _ e => by cases e) (fun _ _ => rfl)
    | fn f caps => exact hc.goes go (fun _ e => by cases e) (fun _ _ => rfl)
    | ifc T t x => exact hc.goes go (fun _ e => by cases e) (fun _ _ => rfl)
    | pin v0 t x => exact hc.goes go (fun _ e => by cases e) (fun _ _ => rfl)
    | _ => exact hc
  have R1 := R.exWrote ho hwr (f := fun c => if allGe zs.length (c.longs i) = true then c.over i zs else .top) (fun c v hc => by
    split
    · rename_i h; exact key c v hc h
    · exact hc.cell) (fun x => rfl)
  have e2 : A.map (fun c => if allGe zs.length (c.longs i) = true then c.over i zs else .top) = A.map (C.over i zs) := by
    rw [← e]
    conv => lhs; rw [← AS.upto_eq (allGe_splits _) hg]
    obtain ⟨tm, stk, ob⟩ := A
    have hf : ∀ c : C, (if allGe zs.length ((c.upto (C.longs i) (allGe zs.length)).longs i) = true then (c.upto (C.longs i) (allGe zs.length)).over i zs else .top) = (c.upto (C.longs i) (allGe zs.length)).over i zs := by
      intro c
      unfold C.upto
      cases h : allGe zs.length (c.longs i) with
      | true => simp [h]
      | false => simp [C.longs, allGe, C.over]
    have hcs : ∀ cs : List C, (cs.map (C.upto (C.longs i) (allGe zs.length))).map (fun c => if allGe zs.length (c.longs i) = true then c.over i zs else .top) = (cs.map (C.upto (C.longs i) (allGe zs.length))).map (C.over i zs) := by
      intro cs
      rw [List.map_map, List.map_map]
      exact List.map_congr_left fun c _ => hf c
    have hv : ∀ v : V, (v.map (C.upto (C.longs i) (allGe zs.length))).map (fun c => if allGe zs.length (c.longs i) = true then c.over i zs else .top) = (v.map (C.upto (C.longs i) (allGe zs.length))).map (C.over i zs) := by
      intro v
      cases v with
      | one c => simp only [V.map]; rw [hf c]
      | agg cs => simp only [V.map]; rw [hcs cs]
      | tup ps =>
        simp only [V.map, List.map_map]
        congr 1
        refine List.map_congr_left fun p _ => ?_
        simp only [Function.comp_apply]
        rw [hcs p.2]
      | any => rfl
    simp only [AS.map, List.map_map, AS.mk.injEq]
    refine ⟨List.map_congr_left fun v _ => hv v, List.map_congr_left fun l _ => ?_, List.map_congr_left fun o _ => ?_⟩
    · simp only [Function.comp_apply, List.map_map]
      exact List.map_congr_left fun v _ => hv v
    · cases o with
      | none => rfl
      | some cs => simp only [Function.comp_apply, Option.map_some]; rw [hcs cs]
  rw [e2] at R1
  exact R1

/-! ## a function that is given lists that nothing else leans on, and answers yes or no -/
abbrev ioB : Io := ⟨[], [], [], [.dat .bool false false], none⟩
def Io.runX (tt : TT) (hd : Hd) (okDraw : Dr) (lp : Lp) (io : Io) (fn : Func) (A0 : AS) : Option io.Res :=
  match fn.body with
  | some c => ev tt hd okDraw lp 0 (lrOf fn) c (lrOf fn) [] A0 (io.fin tt fn)
  | none => none
theorem exFn_sound {P : Program} {tt : TT} (htt : TTok P tt) (hm : P.follows .mixedOrders = true) {hd : Hd} (hh : HdOk P hd) {okDraw : Dr} (hdr : DrawOk P tt okDraw) {f : Nat} {fn : Func} (hf : P.funcs[f]? = some fn) {lp : Lp}
    (hlp : LpsOk P 0 lp (tops fn) 0) {r : Bool} {F : Fra} {G : Gh} {A : AS} {ts : Array Value} {cst : List (Array Value)} {w : World} {vals : Array Value} {id : Nat} (hid : ∀ d, F.mu0 (id / 2 + d) = none) (Rl : Rel F G A ts cst w)
    {ow : List (Nat × Nat)} {A0 : AS} (R0 : Rel (inFra G w [] ow) (inGh G [] ow) A0 (vals ++ Array.replicate (fn.ntmps - vals.size) undef) [] w)
    (hrun : Io.runX tt hd okDraw lp ioB fn A0 = some (.ret ((r, ()), ()))) {R' : Type} {K : Oc → AS → Option R'} {rr : R'} (hK : K (.ret (.one (.bool r)) (some [])) (A.map (C.strip (ow.map (·.2)) [])) = some rr) :
    Calls P f vals w fun e w' => ∃ G' A' v u, Rel F G' A' ts cst w' ∧ Rv G' w' v u ∧
      ((e = .returned u ∧ ∃ ks, Unt G G' (inKs ks) w w' ∧ K (.ret v ks) A' = some rr) ∨ (e = .panicked [{ v := u, recovered := false }] ∧ K (.pan v) A' = some rr)) := by
  obtain ⟨c, hc⟩ : ∃ c, fn.body = some c := by
    cases hb : fn.body with
    | none => simp only [Io.runX, hb] at hrun; cases hrun
    | some c => exact ⟨c, rfl⟩
  simp only [Io.runX, hc] at hrun
  have hfc : fnCode fn = c := by unfold fnCode; rw [hc]
  have hkb : ∀ d, (inFra G w [] ow).mu0 (0 + d) = none := fun d => rfl
  have hl := hlp.all
  unfold tops at hl
  rw [hfc] at hl
  refine calls_of_wp hf hc (ev_sound htt hm hh hdr hkb c hl hrun R0 ?_)
  intro ex A' G' a' w' Re hdf hk
  have fin : finRet tt ioB fn A' = some (.ret ((r, ()), ())) → ∃ v, (results fn a'.tmps).run P w' = .ok v w' ∧ (∃ G' A' v_1 u, Rel F G' A' ts cst w' ∧ Rv G' w' v_1 u ∧
      ((Ending.returned v = .returned u ∧ ∃ ks, Unt G G' (inKs ks) w w' ∧ K (.ret v_1 ks) A' = some rr) ∨ (Ending.returned v = .panicked [{ v := u, recovered := false }] ∧ K (.pan v_1) A' = some rr))) := by
    intro hfin
    unfold finRet at hfin
    split at hfin
    · rename_i r0 β g1
      split at hfin
      · rename_i o β' g2
        cases hnd : nodupB ((owVs _root_.id ioB.res (fn.results.toList.map (resV tt A')) 0 ++ owOb A'.ob β' β' (ioB.obs ++ ioB.nobs) 0).map (·.2)) with
        | false => rw [hnd] at hfin; cases hfin
        | true =>
          rw [hnd] at hfin
          simp only [cond_true, Option.some.injEq, Out.ret.injEq, Prod.mk.injEq] at hfin
          obtain ⟨us, hres, hus⟩ := run_results htt Re fn (mVs_ne_any g1)
          obtain ⟨_, g3, _⟩ := mVs_sound g1 hus
          obtain ⟨u, us', rfl, ⟨hrt, _, hone⟩, hnil⟩ := g3 β (.refl _)
          have hnil : us' = [] := hnil
          subst hnil
          have hr0 : r0.1 = r := by rw [hfin.1]
          rw [hr0] at hrt
          have hu : u.cells = #[u] := by
            have := hone rfl
            cases u <;> first | rfl | cases this
          rw [hu] at hrt
          have hub : u = .bool r := by
            have h1 : [u] = [Value.bool r] := hrt
            simpa using h1
          subst hub
          refine ⟨_, hres, ?_⟩
          have hgo := outGh_ok (I := ow.map (·.2)) (OW := []) (base := id / 2) (nn := 0) (mn := fun _ => none) Rl.gh Re.gh (fun p hp => List.mem_map.2 ⟨p, hp, rfl⟩) rfl hid (fun _ _ h => by cases h) (fun _ _ _ h => by cases h)
          have hval : ∀ c v, Rc G w c v → Rc (outGh G G' (ow.map (·.2)) [] (id / 2) 0 fun _ => none) w' (c.strip (ow.map (·.2)) []) v := fun c v hc =>
            outGh_val (base := id / 2) (nn := 0) (mn := fun _ => none) Rl.gh Re.gh (fun p hp => List.mem_map.2 ⟨p, hp, rfl⟩) (OW := []) (fun p hp => by cases hp) hc
          have hheap : ∀ key b, G.mu key = some b → (outGh G G' (ow.map (·.2)) [] (id / 2) 0 fun _ => none).mu key = some b ∧ w'.heap[b]? = w.heap[b]? := fun key b hb =>
            ⟨by simp only [outGh]; rw [if_neg (by omega)]; exact hb, outGh_heap Rl.gh Re.gh hb fun j hj => by
              obtain ⟨k, hk, _⟩ := inGh_mu hj
              simp [Bn.at] at hk⟩
          refine ⟨_, _, .one (.bool r), .bool r, Rl.map hval (strip_itr _ _) hheap hgo, rfl, .inl ⟨rfl, some [], ⟨fun b o hs => ⟨Re.gh.sub b o hs, Re.gh.keep b o hs⟩, fun key b _ hb => hheap key b hb⟩, hK⟩⟩
      · cases hfin
    · cases hfin
  cases ex with
  | normal => exact ⟨hdf, fin hk⟩
  | ret => exact ⟨hdf, fin hk⟩
  | exit i => cases hk
  | panic v =>
    simp only [Io.fin] at hk
    split at hk
    · rename_i x _; exact nomatch x
    · cases hk
end
end Go.Proofs.Ytnppjkijhcampaa.Sym

/- leatref01.Spoil turns every byte of a list that nothing else leans on, and nothing else. -/
namespace Go.Proofs.Ytnppjkijhcampaa.Sym
open Go
set_option linter.unusedSimpArgs false
set_option linter.unusedVariables false
noncomputable section

noncomputable abbrev spC : Code := fnCode Go.Proofs.Try.f22
noncomputable abbrev spB : Code := (topL Go.Proofs.Try.f22 0).2.1
def blkC : Code → Code
  | .block _ b => b
  | c => c
noncomputable abbrev spO0 : Array Oper := regOps (seqL spC)
noncomputable abbrev spO1 : Array Oper := regOps (seqL (seqL spB))
noncomputable abbrev spO3 : Array Oper := regOps (blkC (seqL (seqR spB)))
noncomputable abbrev spO2 : Array Oper := regOps (seqR (seqR spB))
noncomputable abbrev u8T : Ty := .int .u8
noncomputable abbrev anys (n : Nat) : List V := List.replicate n .any
noncomputable abbrev exB (xs : List Int) : V := .one (.ex 5 u8T 0 xs 1 1)
/-- Some are turned. -/
def spTo (k : Nat) (xs : List Int) : List Int := (xs.take k).map spT ++ xs.drop k
theorem spTo_length (k : Nat) (xs : List Int) : (spTo k xs).length = xs.length := by simp [spTo]; omega
theorem spTo_get {k : Nat} {xs : List Int} (h : k < xs.length) : (spTo k xs).getD k 0 = xs[k] := by
  unfold spTo
  rw [List.getD_eq_getElem?_getD, List.getElem?_append_right (by simp; omega)]
  have : k - (List.map spT (List.take k xs)).length = 0 := by simp; omega
  rw [this, List.getElem?_drop]
  simp [h]
theorem spTo_set {k : Nat} {xs : List Int} (h : k < xs.length) : (spTo k xs).set k (spT xs[k]) = spTo (k + 1) xs := by
  unfold spTo
  rw [List.set_append_right _ _ (by simp; omega)]
  have : k - (List.map spT (List.take k xs)).length = 0 := by simp; omega
  rw [this, List.drop_eq_getElem_cons h, List.set_cons_zero, List.take_succ_eq_append_getElem h]
  simp only [List.map_append, List.map_cons, List.map_nil, List.append_assoc, List.singleton_append]

noncomputable def spH (ys : List Int) (k : Int) : AS := ⟨[exB ys, .any, .one (.int .i64 k)] ++ anys 14, [], []⟩
noncomputable abbrev spK (ys : List Int) (k : Int) : Int := ((0 : Nat) : Int) + (ys.length : Int)
noncomputable def spS1 (ys : List Int) (k : Int) : AS := ⟨[exB ys, .any, .one (.int .i64 k), .one (.int .i64 k), exB ys, .one (.int .i64 (spK ys k)), .one (.bool (decide (k < spK ys k)))] ++ anys 10, [], []⟩
theorem sp0 (ys : List Int) : evPs tt 0 spO0 [0] ⟨exB ys :: anys 16, [], []⟩ = some (spH ys 0) := by kernel_rfl
theorem sp1 (ys : List Int) (k : Int) : evPs tt 0 spO1 [0, 1, 2, 3] (spH ys k) = some (spS1 ys k) := by kernel_rfl
noncomputable abbrev spE (ys : List Int) (k : Nat) : V := .one (.eel u8T k (ys.getD k 0) 1 1)
noncomputable def spS3 (ys : List Int) (k : Nat) : AS := ⟨[exB ys, .any, .one (.int .i64 k), .one (.int .i64 k), exB ys, .one (.int .i64 (spK ys k)), .one (.bool (decide ((k : Int) < spK ys k))), .any, .any,
  exB ys, .one (.int .i64 k), exB ys, .one (.int .i64 k), spE ys k, .one (.int .u8 (ys.getD k 0)), .one (.int .u8 (spT (ys.getD k 0))), spE ys k], [], []⟩
theorem sp3 (ys : List Int) (k : Nat) : evPs tt 0 spO3 [0, 1, 2, 3, 4, 5, 6, 7] (spS1 ys k) = bif decide (((0 : Nat) : Int) ≤ (k : Int)) && decide ((k : Int) < ((0 : Nat) : Int) + (ys.length : Int)) then some (spS3 ys k) else none := by
  have h : evPs tt 0 spO3 [0, 1, 2, 3, 4, 5, 6, 7] (spS1 ys k) = bif decide (((0 : Nat) : Int) ≤ (k : Int)) && decide ((k : Int) < ((0 : Nat) : Int) + (ys.length : Int)) then (bif decide (((0 : Nat) : Int) ≤ (k : Int)) && decide ((k : Int) < ((0 : Nat) : Int) + (ys.length : Int)) then some (spS3 ys k) else none) else none := by kernel_rfl
  rw [h]
  cases (decide (((0 : Nat) : Int) ≤ (k : Int)) && decide ((k : Int) < ((0 : Nat) : Int) + (ys.length : Int))) <;> rfl
noncomputable def spM (ys : List Int) (k : Nat) : AS := ((spS3 ys k).map (C.updEx 1 u8T k (spT (ys.getD k 0)))).put none (.tup [])
theorem sp2 (ys : List Int) (k : Nat) : evPs tt 0 spO2 [0, 1, 2] (spM ys k) = some ⟨[exB (spSet 0 k ys (spT (ys.getD k 0))), .any, .one (.int .i64 (IntKind.wrap .i64 ((k : Int) + 1))), .one (.int .i64 k), exB (spSet 0 k ys (spT (ys.getD k 0))), .one (.int .i64 (spK ys k)), .one (.bool (decide ((k : Int) < spK ys k))),
  .one (.int .i64 k), .one (.int .i64 (IntKind.wrap .i64 ((k : Int) + 1))), exB (spSet 0 k ys (spT (ys.getD k 0))), .one (.int .i64 k), exB (spSet 0 k ys (spT (ys.getD k 0))), .one (.int .i64 k), .one .top, .one (.int .u8 (ys.getD k 0)), .one (.int .u8 (spT (ys.getD k 0))), .one .top], [], []⟩ := by kernel_rfl

def spFra (w : World) (b : Nat) : Fra := ⟨w, fun b' => b' = b, fun _ _ => False, fun _ => none⟩
def spGh (b : Nat) : Gh := ⟨fun _ _ => False, fun _ => none, fun j => if j = 1 then some (b, 0) else none⟩
theorem spGh_ok {w : World} {b : Nat} (hb : b < w.heap.size) : GhOk (spFra w b) (spGh b) w where
  mu := fun _ _ h => by cases h
  muI := fun _ _ _ h => by cases h
  ow := fun i b' l h => by
    simp only [spGh] at h
    split at h
    · cases h; exact ⟨fun _ _ h => h, .inr rfl, hb, fun _ h => by cases h⟩
    · cases h
  owI := fun i j b' l l' h h' => by
    simp only [spGh] at h h'
    by_cases e1 : i = 1
    · by_cases e2 : j = 1
      · rw [e1, e2]
      · rw [if_neg e2] at h'; cases h'
    · rw [if_neg e1] at h; cases h
  sB := fun _ _ h => h.elim
  fr := ⟨rfl, rfl, rfl, Nat.le_refl _, fun _ _ _ => rfl⟩
  sub := fun _ _ h => h
  sup := fun _ _ h => h.elim
  keep := fun _ _ h => h.elim
  fix_ := fun _ _ h => by cases h

theorem heap_lt {w : World} {b : Nat} {o : Obj} (h : w.heap[b]? = some o) : b < w.heap.size := (Array.getElem?_eq_some_iff.1 h).1
/-- What it does to the world. -/
theorem spoil_calls (w : World) (xs : List Int) (cap b : Nat) (cur : Array Value) (el : TypeId) (hh : w.heap[b]? = some (.cells cur el (0, 0))) (hcs : cur.size = cap) (hle : xs.length ≤ cap) (hcap : cap ≤ maxLen)
    (hx : ∀ (k : Nat) (x : Int), xs[k]? = some x → inR .u8 x ∧ cur[k]? = some (Value.int .u8 x)) :
    Calls prog 22 #[.slice (some ⟨b, 0, none⟩) xs.length cap] w fun e w' => e = .returned (.tuple #[]) ∧ ∃ cur', Wrote w w' b ∧ w'.heap[b]? = some (.cells cur' el (0, 0)) ∧ cur'.size = cur.size ∧
      (∀ (k : Nat) (z : Int), (xs.map spT)[k]? = some z → cur'[k]? = some (Value.int .u8 z) ∧ inR .u8 z) ∧ ∀ q : Nat, xs.length ≤ q → cur'[q]? = cur[q]? := by
  have htt := ttOf_ok Go.Proofs.Try.prog 400
  have hc : (Go.Proofs.Try.f22).body = some (.seq (.region 0 spO0 false) (.block 0 (.loop (.seq (.seq (.region 1 spO1 false) (.cond (.tmp 6) .skip (.exit 0))) (.seq (.block 1 (.region 3 spO3 false)) (.region 2 spO2 false)))))) := by kernel_rfl
  refine calls_of_wp (P := prog) (fn := Go.Proofs.Try.f22) (by kernel_rfl) hc ?_
  have ho : (spGh b).ow 1 = some (b, 0) := rfl
  have R0 : Rel (spFra w b) (spGh b) ⟨exB xs :: anys 16, [], []⟩ (#[Value.slice (some ⟨b, 0, none⟩) xs.length cap] ++ Array.replicate ((Go.Proofs.Try.f22).ntmps - 1) undef) [] w := by
    refine ⟨?_, trivial, fun k cs hk => by simp at hk, spGh_ok (heap_lt hh)⟩
    rw [show (Go.Proofs.Try.f22).ntmps - 1 = 16 by kernel_rfl, Array.toList_append, Array.toList_replicate]
    refine ⟨.inr ⟨b, cap, by rw [Nat.zero_add], ⟨by decide, by decide, .inl ho⟩, cur, el, hh, by rw [hcs]; simp [Ty.size], by rw [Nat.zero_add]; exact hle, hcap, fun k x hk => ?_⟩, All2.replicate (R := Rv (spGh b) w) (a := .any) (b := undef) trivial 16⟩
    obtain ⟨h1, h2⟩ := hx k x hk
    refine ⟨[.int .u8 x], ⟨rfl, h1⟩, fun q u hq => ?_⟩
    cases q with
    | succ q => simp at hq
    | zero =>
      simp only [List.getElem?_cons_zero, Option.some.injEq] at hq
      subst hq
      simpa [Ty.size] using h2
  have hxl : (xs.length : Int) ≤ 9223372036854775807 := by rw [maxLen_eq] at hcap; omega
  refine wp_seq (wp_region ?_)
  rw [show List.range spO0.size = [0] ++ [] by kernel_rfl]
  refine evPs_sound htt (sp0 xs) R0 fun a1 R1 hd1 => ?_
  show (Code.block 0 _).wp prog _ a1 w
  refine wp_block (wp_loop_ghost (fun m a' w' => ∃ k, m = xs.length - k ∧ k ≤ xs.length ∧ Rel (spFra w b) (spGh b) (spH (spTo k xs) (k : Int)) a'.tmps [] w' ∧ a'.defers = [] ∧
    ∃ cu : Array Value, Wrote w w' b ∧ w'.heap[b]? = some (.cells cu el (0, 0)) ∧ cu.size = cur.size ∧ ∀ q : Nat, xs.length ≤ q → cu[q]? = cur[q]?) (xs.length - 0) ⟨0, rfl, Nat.zero_le _, R1, hd1, cur, ⟨rfl, rfl, rfl, rfl, fun _ _ => rfl⟩, hh, rfl, fun _ _ => rfl⟩ ?_)
  rintro m a w1 ⟨k, rfl, hk, R, hd, cu, hwr, hcu, hcus, hhigh⟩
  refine wp_seq (wp_seq (wp_region ?_))
  rw [show List.range spO1.size = [0, 1, 2, 3] ++ [] by kernel_rfl]
  refine evPs_sound htt (sp1 _ _) R fun a2 R2 hd2 => ?_
  show (Code.cond _ _ _).wp prog _ a2 w1
  refine wp_cond (t := decide ((k : Int) < spK (spTo k xs) k)) (R2.opd (.tmp 6)) ?_
  have hT := spTo_length k xs
  by_cases hlt : k < xs.length
  · have e : decide ((k : Int) < spK (spTo k xs) k) = true := by simp only [spK, hT, decide_eq_true_eq]; omega
    rw [e]
    refine wp_skip ?_
    show (Code.seq _ _).wp prog _ a2 w1
    refine wp_seq (wp_block (wp_region ?_))
    rw [show List.range spO3.size = [0, 1, 2, 3, 4, 5, 6, 7] ++ [8] by kernel_rfl]
    refine evPs_sound htt ((sp3 _ _).trans (bif_true (by simp only [hT, Bool.and_eq_true, decide_eq_true_eq]; omega) _ _)) R2 fun a3 R3 hd3 => ?_
    obtain ⟨p0, f0, ho8⟩ : ∃ pos after, spO3[8]? = some { dst := none, op := .store 5 (.tmp 16) (.tmp 15), type := 0, pos := pos, after := after, guard := none } := ⟨_, _, rfl⟩
    simp only [wpOps, ho8]
    rw [if_pos (by rfl)]
    refine .inl ?_
    have hel : Rc (spGh b) w1 (.eel u8T k ((spTo k xs).getD k 0) 1 1) (a3.eval (.tmp 16)) := R3.opd (.tmp 16)
    have hyv : Rv (spGh b) w1 (.one (.int .u8 (spT ((spTo k xs).getD k 0)))) (a3.eval (.tmp 15)) := R3.opd (.tmp 15)
    have hyt : Rt (spGh b).S w1 u8T (spT ((spTo k xs).getD k 0)) (a3.eval (.tmp 15)).cells.toList := by
      obtain ⟨e1, e2⟩ := hyv
      rw [e1]
      exact ⟨rfl, e2⟩
    obtain ⟨b', cu1, el1, cu2, g1, g2, g3, g4, g5, g6⟩ := store_eel_run (P := prog) (t := 5) htt (by kernel_rfl) hel hyt
    rw [ho] at g1
    cases g1
    rw [hcu] at g2
    cases g2
    unfold Oper.wp
    rw [g6 _ rfl]
    have hwr2 := Wrote.setRow w1 b cu2
    have R4 : Rel (spFra w b) (spGh b) (spM (spTo k xs) k) a3.tmps [] (w1.setRow b cu2) := R3.updEx ho hwr2 hcu g3 g4 g5 hyt
    simp only [Oper.upon]
    show (Code.region 2 spO2 false).wp prog _ a3 _
    refine wp_region ?_
    rw [show List.range spO2.size = [0, 1, 2] ++ [] by kernel_rfl]
    refine evPs_sound htt (sp2 _ _) R4 fun a4 R5 hd5 => ?_
    refine ⟨xs.length - (k + 1), by omega, k + 1, rfl, hlt, ?_, hd5.trans (hd3.trans (hd2.trans hd)), cu2, ⟨hwr2.os.trans hwr.os, hwr2.tape.trans hwr.tape, hwr2.output.trans hwr.output, hwr2.size.trans hwr.size, fun q hq => (hwr2.other q hq).trans (hwr.other q hq)⟩, g3, ?_, ?_⟩
    · have R6 : Rel (spFra w b) (spGh b) ⟨maskTm 5 0 _, [], []⟩ a4.tmps [] (w1.setRow b cu2) := ⟨maskTm_sound 5 0 R5.tm, R5.stk, R5.ob, R5.gh⟩
      have e1 : spSet 0 k (spTo k xs) (spT ((spTo k xs).getD k 0)) = spTo (k + 1) xs := by
        rw [spTo_get hlt]
        exact spTo_set hlt
      rw [e1] at R6
      have e2 : IntKind.wrap .i64 ((k : Int) + 1) = ((k + 1 : Nat) : Int) := wrap_succ hlt (by rw [maxLen_eq]; omega)
      rw [e2] at R6
      exact R6
    · have := congrArg Array.size g4
      have g5' : k * 1 + 1 ≤ cu.size := g5
      obtain ⟨e1, e2⟩ := hyv
      rw [← this, e1]
      simp [Value.cells, Ty.size]
      omega
    · intro q hq
      obtain ⟨e1, e2⟩ := hyv
      rw [← hhigh q hq, ← g4, e1, ← Array.getElem?_toList, ← Array.getElem?_toList]
      have g5' : k * 1 + 1 ≤ cu.size := g5
      simp only [Value.cells, Ty.size]
      rw [List.append_assoc, List.getElem?_append_right (by simp; omega), List.getElem?_append_right (by simp; omega), List.getElem?_drop]
      congr 1
      simp
      omega
  · have hkl : k = xs.length := by omega
    have e : decide ((k : Int) < spK (spTo k xs) k) = false := by simp only [spK, hT, decide_eq_false_iff_not]; omega
    rw [e]
    refine wp_exit ?_
    simp only [Exit.then, Exit.inBlock, if_true]
    refine ⟨hd2.trans hd, .tuple #[], by kernel_rfl, rfl, cu, hwr, hcu, hcus, fun q z hz => ?_, hhigh⟩
    have he := R.get 0
    have hex : Rc (spGh b) w1 (.ex 5 u8T 0 (spTo k xs) 1 1) (a.tmps.getD 0 undef) := he
    have hz' : (spTo k xs)[q]? = some z := by
      rw [hkl]
      unfold spTo
      rw [List.take_length, List.drop_length, List.append_nil]
      exact hz
    rcases hex with ⟨_, h0, _⟩ | ⟨b', cap', _, ⟨_, _, ho'⟩, cu', el', hcu', _, _, _, h4⟩
    · rw [h0] at hz'; simp at hz'
    · have hbb : b' = b := by rcases ho' with h | h <;> (rw [ho] at h; cases h; rfl)
      subst hbb
      rw [hcu] at hcu'
      cases hcu'
      obtain ⟨c, ⟨rfl, hin⟩, hu⟩ := h4 q z hz'
      have := hu 0 _ rfl
      exact ⟨by simpa [Ty.size] using this, hin⟩
/-- Of a nil list nothing is turned. -/
theorem spoil_nil (w : World) : Calls prog 22 #[.slice none 0 0] w fun e w' => e = .returned (.tuple #[]) ∧ w' = w := by
  have htt := ttOf_ok Go.Proofs.Try.prog 400
  have hc : (Go.Proofs.Try.f22).body = some (.seq (.region 0 spO0 false) (.block 0 (.loop (.seq (.seq (.region 1 spO1 false) (.cond (.tmp 6) .skip (.exit 0))) (.seq (.block 1 (.region 3 spO3 false)) (.region 2 spO2 false)))))) := by kernel_rfl
  refine calls_of_wp (P := prog) (fn := Go.Proofs.Try.f22) (by kernel_rfl) hc ?_
  have hg0 : GhOk (thawFra ⟨fun _ _ => False, fun _ => none, fun _ => none⟩ w) (thawGh ⟨fun _ _ => False, fun _ => none, fun _ => none⟩) w :=
    { mu := fun _ _ h => by cases h
      muI := fun _ _ _ h => by cases h
      ow := fun _ _ _ h => by cases h
      owI := fun _ _ _ _ _ h => by cases h
      sB := fun _ _ h => by rcases h with h | ⟨_, h⟩; exact h.elim; cases h
      fr := ⟨rfl, rfl, rfl, Nat.le_refl _, fun _ _ _ => rfl⟩
      sub := fun _ _ h => h
      sup := fun _ _ h => .inl h
      keep := fun _ _ _ => rfl
      fix_ := fun _ _ h => by cases h }
  have R0 : Rel (thawFra ⟨fun _ _ => False, fun _ => none, fun _ => none⟩ w) (thawGh ⟨fun _ _ => False, fun _ => none, fun _ => none⟩) ⟨exB [] :: anys 16, [], []⟩ (#[Value.slice none 0 0] ++ Array.replicate ((Go.Proofs.Try.f22).ntmps - 1) undef) [] w := by
    refine ⟨?_, trivial, fun k cs hk => by simp at hk, hg0⟩
    rw [show (Go.Proofs.Try.f22).ntmps - 1 = 16 by kernel_rfl, Array.toList_append, Array.toList_replicate]
    exact ⟨.inl ⟨rfl, rfl, rfl⟩, All2.replicate (a := V.any) (b := undef) trivial 16⟩
  refine wp_seq (wp_region ?_)
  rw [show List.range spO0.size = [0] ++ [] by kernel_rfl]
  refine evPs_sound htt (sp0 []) R0 fun a1 R1 hd1 => ?_
  show (Code.block 0 _).wp prog _ a1 w
  refine wp_block (wp_loop_ghost (fun _ a' w' => Rel (thawFra ⟨fun _ _ => False, fun _ => none, fun _ => none⟩ w) (thawGh ⟨fun _ _ => False, fun _ => none, fun _ => none⟩) (spH [] 0) a'.tmps [] w' ∧ a'.defers = [] ∧ w' = w) 0 ⟨R1, hd1, rfl⟩ ?_)
  rintro m a w1 ⟨R, hd, rfl⟩
  refine wp_seq (wp_seq (wp_region ?_))
  rw [show List.range spO1.size = [0, 1, 2, 3] ++ [] by kernel_rfl]
  refine evPs_sound htt (sp1 _ _) R fun a2 R2 hd2 => ?_
  show (Code.cond _ _ _).wp prog _ a2 _
  refine wp_cond (t := false) (R2.opd (.tmp 6)) ?_
  refine wp_exit ?_
  simp only [Exit.then, Exit.inBlock, if_true]
  exact ⟨hd2.trans hd, .tuple #[], by kernel_rfl, rfl, rfl⟩
theorem Grown.refl (w : World) : Grown w w := ⟨rfl, rfl, rfl, Nat.le_refl _, fun _ _ => rfl⟩
theorem AS.map_noOp {F : Fra} {G : Gh} {A : AS} {ts : Array Value} {cst : List (Array Value)} {w : World} (R : Rel F G A ts cst w) (i : Nat) : Rel F G (A.map (C.over i [])) ts cst w := by
  refine R.map (fun c v h => ?_) (fun _ => rfl) (fun _ _ h => ⟨h, rfl⟩) R.gh
  have hcell := h.cell
  cases c with
  | lst e t xs own =>
    obtain ⟨A', cap, e0, h1, h2, h3, h4⟩ := h
    refine ⟨A', cap, e0, h1, h2, h3, ?_⟩
    cases hb : own == i with
    | true => exact .inl rfl
    | false => exact h4
  | ex e t lo xs a b =>
    simp only [C.over]
    cases hn : !(a == i) && !(b == i) with
    | true => exact h
    | false =>
      simp only [cond_false]
      split
      · rename_i ht
        subst ht
        simp only
        cases hy : (a == i) && (b == i) with
        | true =>
          have : spOver lo [] xs = xs := by simp [spOver]
          rw [this]
          exact h
        | false =>
          simp only [cond_false]
          cases hlo : Nat.beq lo 0 with
          | false => exact hcell
          | true =>
            have hlo := Nat.eq_of_beq_eq_true hlo
            subst hlo
            exact h
      · exact hcell
  | eel t k x a b =>
    simp only [C.over]
    cases hn : !(a == i) && !(b == i) with
    | true => exact h
    | false => exact hcell
  | _ => exact h

theorem okspoil : HcOk prog 22 spoilHd := by
  intro R args id A K r F G ts cst w vals hid hrun Rl hv
  refine ⟨⟨Go.Proofs.Try.f22, by kernel_rfl, by kernel_rfl, by kernel_rfl⟩, ?_⟩
  unfold spoilHd at hrun
  split at hrun
  · rename_i e t lo xs i j
    cases hz : Nat.beq i j && Nat.beq lo 0 with
    | false => rw [hz] at hrun; cases hrun
    | true =>
      rw [hz] at hrun
      simp only [cond_true] at hrun
      simp only [Bool.and_eq_true] at hz
      have hij := Nat.eq_of_beq_eq_true hz.1
      have hlo := Nat.eq_of_beq_eq_true hz.2
      subst hij hlo
      split at hrun
      · rename_i ht
        subst ht
        simp only at hrun
        cases hg : allGe xs.length (A.coll (C.longs i)) with
        | false => rw [hg] at hrun; cases hrun
        | true =>
          rw [hg] at hrun
          simp only [cond_true, AS.force_eq] at hrun
          obtain ⟨v, rfl⟩ : ∃ v, vals = #[v] := by
            have := hv.length
            obtain ⟨v, hv⟩ : ∃ v, vals.toList = [v] := by
              cases h : vals.toList with
              | nil => rw [h] at this; cases this
              | cons v l => cases l with
                | nil => exact ⟨v, rfl⟩
                | cons _ _ => rw [h] at this; simp at this
            exact ⟨v, by rw [← Array.toList_inj]; exact hv⟩
          have hx : Rc G w (.ex e (.int .u8) 0 xs i i) v := hv.1
          rcases hx with ⟨_, rfl, rfl⟩ | ⟨b, cap, rfl, ⟨_, _, ho⟩, cur, el, hh, h1, h2, h3, h4⟩
          · refine (spoil_nil w).mono ?_
            rintro e' w' ⟨rfl, rfl⟩
            exact ⟨G, _, _, .tuple #[], AS.map_noOp Rl i, (show Rv G _ (.tup []) (.tuple #[]) from ⟨#[], rfl, trivial⟩), .inl ⟨rfl, some [], .refl _ _ _, hrun⟩⟩
          · have ho : G.ow i = some (b, 0) := by rcases ho with h | h <;> exact h
            rw [Nat.zero_add] at h2 ⊢
            refine (spoil_calls w xs cap b cur el hh (by rw [h1]; simp [Ty.size]) h2 h3 fun k x hk => ?_).mono ?_
            · obtain ⟨c, ⟨rfl, hin⟩, hu⟩ := h4 k x hk
              have := hu 0 _ rfl
              exact ⟨hin, by simpa [Ty.size] using this⟩
            · rintro e' w' ⟨rfl, cur', hwr, hh', hs', hlow, hhigh⟩
              have hl : (List.map spT xs).length = xs.length := List.length_map _
              have R' := Rl.over (zs := List.map spT xs) ho hwr hh hh' hs' hlow (by rw [hl]; exact hhigh) (by rw [hl]; exact hg)
              exact ⟨G, _, _, .tuple #[], R', (show Rv G w' (.tup []) (.tuple #[]) from ⟨#[], rfl, trivial⟩), .inl ⟨rfl, some [], ⟨(Goes.exWrote Rl.gh ho hwr).kept, fun key b1 _ hb1 => ⟨hb1, hwr.other b1 (by rintro rfl; exact (Rl.gh.ow i _ _ ho).2.2.2 key hb1)⟩⟩, hrun⟩⟩
      · cases hrun
  · cases hrun
end
end Go.Proofs.Ytnppjkijhcampaa.Sym
