/- rec: badBlob, shape, blob, body, Put, Size, Check. -/
import Derived.Test.YtnppjkijhcampaaCKget

namespace Go.Proofs.Ytnppjkijhcampaa.Sym
open Go
set_option linter.unusedSimpArgs false
set_option linter.unusedVariables false
noncomputable section

def spBad (b : Blob) : Bool := b.1 && decide ((0 : Int) < (b.2.1.length : Int))
/-- A blob written. -/
noncomputable def spBlob (b : Blob) : List Int := if b.1 = true then spDig (spZig (-1)) else spDig (spZig b.2.1.length) ++ b.2.1
noncomputable def spWHead (h : Head) : List Int := spDig (spZig h.1.length) ++ (h.1 ++ spBlob h.2.1)
noncomputable def spWHeads (hs : List Head) : List Int := hs.flatMap spWHead
/-- A row's body. -/
noncomputable def spBody (r : RowD) : List Int := 0 :: (spDig (spZig r.1) ++ (spDig (spZig r.2.1) ++ (spBlob r.2.2.1 ++ (spBlob r.2.2.2.1 ++ (spDig (spZig r.2.2.2.2.1.length) ++ spWHeads r.2.2.2.2.1)))))
/-- The headers' first error. -/
noncomputable def spHErr : List Head → Int
  | [] => 0
  | h :: hs => if (spUtf h.1).2 = false then 6 else if spBad h.2.1 = true then 70 else spHErr hs
noncomputable def spShape (r : RowD) : Int :=
  if r.2.1 < 0 then 72 else if spBad r.2.2.1 = true ∨ spBad r.2.2.2.1 = true then 70 else if 16 < (r.2.2.2.2.1.length : Int) then 9 else spHErr r.2.2.2.2.1
noncomputable def spCheck (r : RowD) : Int := if spShape r ≠ 0 then spShape r else if 16384 < ((spBody r).length : Int) then 4 else 0
/-- The body, if there is no error; the error. -/
noncomputable def spBodyR (r : RowD) : List Int × Int := if spCheck r = 0 then (spBody r, 0) else ([], spCheck r)
noncomputable def spPutR (r : RowD) : List Int × Int := if spCheck r = 0 then (spDig (spZig (spBody r).length) ++ spBody r, 0) else ([], spCheck r)
noncomputable def spRoom (r : RowD) : Bool := decide ((spBody r).length ≤ 4294967000)
theorem spDig_len (u : Int) : (spDig u).length ≤ 11 := by
  unfold spDig
  have := spHi_len 10 u
  simp only [List.length_append, List.length_cons, List.length_nil]
  omega

/-! ### leat/rec.badBlob -/
noncomputable abbrev iokbad : Io := ⟨[dBlob], [], [], [dB], none⟩
noncomputable def Fkbad (d : iokbad.In) : Tr iokbad.Res := .ret (.ret ((spBad d.1.1, ()), ()))
noncomputable abbrev cskbad : List (Nat × Hc) := []
noncomputable def hdkbad : Hd := hdT cskbad
noncomputable def lpkbad : Lp := lpT []

noncomputable def bodykbad (a0 : Bool) (a1 : List Int) : Option iokbad.Res := bif a0 then some (Out.ret ((decide (0 < (↑a1.length : Int)), ()), ())) else some (Out.ret ((false, ()), ()))
theorem runkbad (a0 : Bool) (a1 : List Int) : Io.run tt hdkbad dr lpkbad iokbad Go.Proofs.Try.f67 (((a0, a1, ()), ()), ()) = bodykbad a0 a1 := by kernel_rfl
theorem okkbad : HcOk prog 67 (ioHd iokbad Fkbad) := by
  refine fn_sound (n := 400) hm (cs := cskbad) .nil (lp := lpkbad) (fn := Go.Proofs.Try.f67) (by kernel_rfl) (by kernel_rfl) (by kernel_rfl) iokbad (.done (by kernel_rfl)) Fkbad ?_
  rintro ⟨⟨⟨(n : Bool), (b : List Int), ⟨⟩⟩, ⟨⟩⟩, ⟨⟩⟩ out hw ho
  cases ho
  refine (runkbad n b).trans ?_
  cases n <;> rfl

/-! ### leat/rec.shape -/
noncomputable abbrev iokshape : Io := ⟨[dRow], [], [], [dI], none⟩
noncomputable def Fkshape (d : iokshape.In) : Tr iokshape.Res := .ret (.ret ((spShape d.1.1, ()), ()))
noncomputable abbrev cskshape : List (Nat × Hc) := [(67, ioHd iokbad Fkbad), (66, ioHd iopUtf FpUtf)]
noncomputable def hdkshape : Hd := hdT cskshape
noncomputable abbrev lokshape_9 : Lo := ⟨⟨[.any, .any, .any, .any, .any, .any, .any, .any, .any, .any, .any, .any, .any, .any, .any, .any, .any, .any, .any, .any, .any, .any, .any, .any, .any, .any, .one (.hol (.sl 49 (Ty.str.prod ((Ty.bool.prod ((Ty.sl 5 (Ty.int IntKind.u8)).prod Ty.unit)).prod Ty.unit)))), .one (.hol (.int IntKind.i64)), .one (.hol (.int IntKind.i64)), .any, .any, .any, .any, .any, .any, .any, .any, .any, .any, .any, .any, .any, .any, .any, .any], []⟩, [(.ret, ⟨[.any, .any, .one (.hol (.int IntKind.i64)), .any, .any, .any, .any, .any, .any, .any, .any, .any, .any, .any, .any, .any, .any, .any, .any, .any, .any, .any, .any, .any, .any, .any, .any, .any, .any, .any, .any, .any, .any, .any, .any, .any, .any, .any, .any, .any, .any, .any, .any, .any, .any], []⟩), (.exit 1, ⟨[.any, .any, .any, .any, .any, .any, .any, .any, .any, .any, .any, .any, .any, .any, .any, .any, .any, .any, .any, .any, .any, .any, .any, .any, .any, .any, .any, .any, .any, .any, .any, .any, .any, .any, .any, .any, .any, .any, .any, .any, .any, .any, .any, .any, .any], []⟩)]⟩
-- Fkshape_9 : lokshape_9.st.den → Tr (DenX lokshape_9.xs) | ((h7, (h8, (h9, ()))), ())
noncomputable def Fkshape_9 (d : lokshape_9.st.den) : Tr (DenX lokshape_9.xs) :=
  .ite (decide (d.1.2.2.1 = (0 : Int)) && decide (d.1.2.1 = (d.1.1.length : Int))) (.ite (decide (spHErr d.1.1 = (0 : Int))) (.ret (.pan (.ret ((), ((), ()))))) (.ret (.ret ((), ((spHErr d.1.1, ()), ()))))) .no
noncomputable def lpkshape : Lp := lpT [(9, loHd lokshape_9 Fkshape_9)]
noncomputable def stepkshape_9 {R : Type} (h7 : List tHead.den) (h8 : Int) (h9 : Int) (next : List tHead.den → Int → Int → Option R) (out : DenX lokshape_9.xs → Option R) : Option R := bif decide (h9 < h8) then bif decide (0 ≤ h9) && decide (h9 < (↑h7.length : Int)) then bif !(spUtf (h7.getD h9.toNat ([], (false, [], ()), ())).fst).snd then out (.ret ((), ((6, ()), ()))) else bif spBad ((h7.getD h9.toNat ([], (false, [], ()), ())).snd.fst.fst, (h7.getD h9.toNat ([], (false, [], ()), ())).snd.fst.snd.fst, ()) then out (.ret ((), ((70, ()), ()))) else next (h7) (h8) (IntKind.i64.wrap (h9 + 1)) else none else out (.pan (.ret ((), ((), ()))))
noncomputable def itkshape_9 (n : Nat) (h7 : List tHead.den) (h8 : Int) (h9 : Int) : Option (DenX lokshape_9.xs) := lpN tt hdkshape dr lpkshape 0 Go.Proofs.Try.f59 (topL Go.Proofs.Try.f59 0) n (lokshape_9.st.mk' ((h7, (h8, (h9, ()))), ())) (decX lokshape_9.xs)
theorem slkshape_9 (n : Nat) (h7 : List tHead.den) (h8 : Int) (h9 : Int) : itkshape_9 (n + 1) h7 h8 h9 = stepkshape_9 h7 h8 h9 (itkshape_9 n) some := by kernel_rfl
theorem loopkshape (hs : List Head) (hm : hs.length ≤ maxLen) : ∀ (k i : Nat), i ≤ hs.length → hs.length < i + k →
    itkshape_9 k hs (hs.length : Int) (i : Int) = if spHErr (hs.drop i) = 0 then some (.pan (.ret ((), ((), ())))) else some (.ret ((), ((spHErr (hs.drop i), ()), ()))) := by
  intro k
  induction k with
  | zero => intro i h1 h2; omega
  | succ k ih =>
    intro i h1 h2
    rw [slkshape_9]
    unfold stepkshape_9
    by_cases h3 : i < hs.length
    · have e : (hs.getD (i : Int).toNat ([], (false, [], ()), ()) : Head) = hs[i] := getD_lt h3
      rw [List.drop_eq_getElem_cons h3, ← e, wrap_succ h3 hm]
      generalize (hs.getD (i : Int).toNat ([], (false, [], ()), ()) : Head) = x
      obtain ⟨x1, ⟨x2, x3, ⟨⟩⟩, ⟨⟩⟩ := x
      rw [bif_true (by simpa using h3), bif_true (by simp [h3])]
      by_cases h4 : (spUtf x1).2 = false
      · have eE : spHErr ((x1, (x2, x3, ()), ()) :: hs.drop (i + 1)) = 6 := by unfold spHErr; rw [if_pos h4]
        rw [eE, bif_true (by simpa using h4)]
        rfl
      · rw [bif_false (by simpa using h4)]
        by_cases h5 : spBad (x2, x3, ()) = true
        · have eE : spHErr ((x1, (x2, x3, ()), ()) :: hs.drop (i + 1)) = 70 := by unfold spHErr; rw [if_neg h4, if_pos h5]
          rw [eE, bif_true h5]
          rfl
        · have eE : spHErr ((x1, (x2, x3, ()), ()) :: hs.drop (i + 1)) = spHErr (hs.drop (i + 1)) := by rw [spHErr, if_neg h4, if_neg h5]
          rw [eE, bif_false (by simpa using h5)]
          exact ih (i + 1) h3 (by omega)
    · rw [List.drop_of_length_le (by omega)]
      rw [bif_false (by simpa using h3)]
      rfl
noncomputable def bodykshape (a0 : Int) (a1 : Int) (a2 : Bool) (a3 : List Int) (a4 : Bool) (a5 : List Int) (a6 : List tHead.den) : Option iokshape.Res := bif decide (a1 < 0) then some (Out.ret ((72, ()), ())) else bif spBad (a2, a3, ()) then some (Out.ret ((70, ()), ())) else bif spBad (a4, a5, ()) then some (Out.ret ((70, ()), ())) else bif decide (16 < (↑a6.length : Int)) then some (Out.ret ((9, ()), ())) else (Fkshape_9 ((a6, ((↑a6.length : Int), (0, ()))), ())).run fun y => match y with | .ret ((), ((x15, ()), ())) => (some (Out.ret ((x15, ()), ()))) | .pan (.ret ((), ((), ()))) => (some (Out.ret ((0, ()), ())))
theorem runkshape (a0 : Int) (a1 : Int) (a2 : Bool) (a3 : List Int) (a4 : Bool) (a5 : List Int) (a6 : List tHead.den) : Io.run tt hdkshape dr lpkshape iokshape Go.Proofs.Try.f59 (((a0, a1, (a2, a3, ()), (a4, a5, ()), a6, ()), ()), ()) = bodykshape a0 a1 a2 a3 a4 a5 a6 := by kernel_rfl
theorem okkshape : HcOk prog 59 (ioHd iokshape Fkshape) := by
  have hcs : HcsOk prog cskshape := .cons okkbad (.cons okpUtf .nil)
  refine fn_sound (n := 400) hm (cs := cskshape) hcs (lp := lpkshape) (fn := Go.Proofs.Try.f59) (by kernel_rfl) (by kernel_rfl) (by kernel_rfl) iokshape
    (.step (h0 := loHd lokshape_9 Fkshape_9) (by kernel_rfl) (loop_sound (n := 400) hm (cs := cskshape) hcs (lp := lpkshape) (fn := Go.Proofs.Try.f59) (.done (by kernel_rfl)) lokshape_9 Fkshape_9 ?_) (.done (by kernel_rfl))) Fkshape ?_
  · rintro ⟨⟨(hs : List Head), (n : Int), (i : Int), ⟨⟩⟩, ⟨⟩⟩ y hw hy
    obtain ⟨hg, hy⟩ := Tr.guard hy
    simp only [Bool.and_eq_true, decide_eq_true_eq] at hg
    obtain ⟨hi, hn⟩ := hg
    have hi : i = 0 := hi
    have hn : n = hs.length := hn
    subst hi hn
    refine ⟨hs.length + 1, (loopkshape hs hw.1.1.1 _ 0 (by omega) (by omega)).trans ?_⟩
    rw [← hy]
    simp only [Tr.val_ite, decide_eq_true_eq, Tr.val_ret, List.drop_zero]
  · rintro ⟨⟨⟨(a0 : Int), (a1 : Int), ⟨(a2 : Bool), (a3 : List Int), ⟨⟩⟩, ⟨(a4 : Bool), (a5 : List Int), ⟨⟩⟩, (a6 : List Head), ⟨⟩⟩, ⟨⟩⟩, ⟨⟩⟩ out hw ho
    cases ho
    refine (runkshape a0 a1 a2 a3 a4 a5 a6).trans ?_
    unfold bodykshape Fkshape_9
    show _ = some (Out.ret ((spShape (a0, a1, (a2, a3, ()), (a4, a5, ()), a6, ()), ()), ()))
    unfold spShape
    simp only [Tr.run_ite, Tr.run_ret]
    by_cases h1 : a1 < 0
    · rw [bif_true (by simpa using h1), if_pos h1]
    rw [bif_false (by simpa using h1), if_neg h1]
    by_cases h2 : spBad (a2, a3, ()) = true
    · rw [bif_true h2, if_pos (.inl h2)]
    rw [bif_false (by simpa using h2)]
    by_cases h3 : spBad (a4, a5, ()) = true
    · rw [bif_true h3, if_pos (.inr h3)]
    rw [bif_false (by simpa using h3), if_neg (show ¬ (spBad (a2, a3, ()) = true ∨ spBad (a4, a5, ()) = true) from fun h => h.elim h2 h3)]
    by_cases h4 : 16 < (a6.length : Int)
    · rw [bif_true (by simpa using h4), if_pos h4]
    rw [bif_false (by simpa using h4), if_neg h4]
    rw [if_pos (by simp)]
    by_cases h5 : spHErr a6 = 0
    · rw [if_pos (decide_eq_true h5), h5]
    · rw [if_neg (by simpa using h5)]

/-! ### leat/rec.blob -/
noncomputable abbrev iokwblob : Io := ⟨[dO, dBlob], [], [], [dO], none⟩
noncomputable def Fkwblob (d : iokwblob.In) : Tr iokwblob.Res := .ite (decide (d.1.1.length + (spBlob d.1.2.1).length ≤ 4294967296)) (.ret (.ret ((d.1.1 ++ spBlob d.1.2.1, ()), ()))) .no
noncomputable abbrev cskwblob : List (Nat × Hc) := [(37, ioHd iopPut FpPut)]
noncomputable def hdkwblob : Hd := hdT cskwblob
noncomputable def lpkwblob : Lp := lpT []

noncomputable def bodykwblob (a0 : List Int) (a1 : Bool) (a2 : List Int) : Option iokwblob.Res := bif a1 then bif decide (a0.length + (spDig (spZig (-1))).length ≤ 4294967296) then some (Out.ret ((a0 ++ spDig (spZig (-1)), ()), ())) else none else bif decide (a0.length + (spDig (spZig (↑a2.length : Int))).length ≤ 4294967296) then bif decide ((a0 ++ spDig (spZig (↑a2.length : Int))).length + a2.length ≤ 4294967296) then some (Out.ret ((a0 ++ spDig (spZig (↑a2.length : Int)) ++ a2, ()), ())) else none else none
theorem runkwblob (a0 : List Int) (a1 : Bool) (a2 : List Int) : Io.run tt hdkwblob dr lpkwblob iokwblob Go.Proofs.Try.f61 ((a0, (a1, a2, ()), ()), ()) = bodykwblob a0 a1 a2 := by kernel_rfl
theorem okkwblob : HcOk prog 61 (ioHd iokwblob Fkwblob) := by
  refine fn_sound (n := 400) hm (cs := cskwblob) (.cons okpPut .nil) (lp := lpkwblob) (fn := Go.Proofs.Try.f61) (by kernel_rfl) (by kernel_rfl) (by kernel_rfl) iokwblob (.done (by kernel_rfl)) Fkwblob ?_
  rintro ⟨⟨(o : List Int), ⟨(n : Bool), (b : List Int), ⟨⟩⟩, ⟨⟩⟩, ⟨⟩⟩ out hw ho
  obtain ⟨hg, ho⟩ := Tr.guard ho
  have hg : o.length + (spBlob (n, b, ())).length ≤ 4294967296 := by simpa using hg
  cases ho
  refine (runkwblob o n b).trans ?_
  show _ = some (Out.ret ((o ++ spBlob (n, b, ()), ()), ()))
  unfold bodykwblob
  cases n with
  | true =>
    have e : spBlob (true, b, ()) = spDig (spZig (-1)) := rfl
    rw [e] at hg ⊢
    rw [bif_true rfl, bif_true (by simpa using hg)]
  | false =>
    have e : spBlob (false, b, ()) = spDig (spZig b.length) ++ b := rfl
    rw [e] at hg ⊢
    simp only [List.length_append] at hg
    rw [bif_false rfl, bif_true (by simp; omega), bif_true (by simp; omega), List.append_assoc]

/-! ### leat/rec.body -/
noncomputable abbrev iokbody : Io := ⟨[dRow], [], [], [dO, dI], none⟩
noncomputable def Fkbody (d : iokbody.In) : Tr iokbody.Res := .ite (spRoom d.1.1) (.ret (.ret (((spBodyR d.1.1).1, (spBodyR d.1.1).2, ()), ()))) .no
noncomputable abbrev cskbody : List (Nat × Hc) := [(59, ioHd iokshape Fkshape), (60, ioHd iopPutAll FpPutAll), (37, ioHd iopPut FpPut), (61, ioHd iokwblob Fkwblob)]
noncomputable def hdkbody : Hd := hdT cskbody
noncomputable abbrev lokbody_10 : Lo := ⟨⟨[.any, .any, .any, .any, .any, .one (.onl 5 (Ty.int IntKind.u8) 11), .any, .any, .any, .any, .any, .any, .any, .any, .any, .any, .any, .any, .any, .any, .any, .any, .any, .any, .any, .any, .any, .any, .any, .any, .any, .any, .any, .any, .any, .any, .any, .one (.hol (.sl 49 (Ty.str.prod ((Ty.bool.prod ((Ty.sl 5 (Ty.int IntKind.u8)).prod Ty.unit)).prod Ty.unit)))), .one (.hol (.int IntKind.i64)), .one (.hol (.int IntKind.i64)), .any, .any, .any, .any, .any, .any, .any, .any, .any, .any, .any, .any, .any, .any, .any, .any, .any, .any, .any, .any, .any, .any], []⟩, [(.exit 0, ⟨[.any, .any, .any, .any, .any, .one (.onl 5 (Ty.int IntKind.u8) 11), .any, .any, .any, .any, .any, .any, .any, .any, .any, .any, .any, .any, .any, .any, .any, .any, .any, .any, .any, .any, .any, .any, .any, .any, .any, .any, .any, .any, .any, .any, .any, .any, .any, .any, .any, .any, .any, .any, .any, .any, .any, .any, .any, .any, .any, .any, .any, .any, .any, .any, .any, .any, .any, .any, .any, .any], []⟩)]⟩
-- Fkbody_10 : lokbody_10.st.den → Tr (DenX lokbody_10.xs) | ((h7, (h8, (h9, (h10, ())))), ())
noncomputable def Fkbody_10 (d : lokbody_10.st.den) : Tr (DenX lokbody_10.xs) :=
  .ite (decide (d.1.2.2.2.1 = (0 : Int)) && (decide (d.1.2.2.1 = (d.1.2.1.length : Int)) && decide (d.1.1.length + (spWHeads d.1.2.1).length ≤ 4294967296))) (.ret (.ret ((), ((d.1.1 ++ spWHeads d.1.2.1, ()), ())))) .no
noncomputable def lpkbody : Lp := lpT [(10, loHd lokbody_10 Fkbody_10)]
noncomputable def stepkbody_10 {R : Type} (h7 : List Int) (h8 : List tHead.den) (h9 : Int) (h10 : Int) (next : List Int → List tHead.den → Int → Int → Option R) (out : DenX lokbody_10.xs → Option R) : Option R := bif decide (h10 < h9) then bif decide (0 ≤ h10) && decide (h10 < (↑h8.length : Int)) then bif decide (h7.length + (spDig (spZig (↑(List.length (h8.getD h10.toNat ([], (false, [], ()), ())).fst) : Int))).length ≤ 4294967296) then bif decide ((h7 ++ spDig (spZig (↑(List.length (h8.getD h10.toNat ([], (false, [], ()), ())).fst) : Int))).length + List.length (h8.getD h10.toNat ([], (false, [], ()), ())).fst ≤ 4294967296) then bif decide ((h7 ++ spDig (spZig (↑(List.length (h8.getD h10.toNat ([], (false, [], ()), ())).fst) : Int)) ++ (h8.getD h10.toNat ([], (false, [], ()), ())).fst).length + (spBlob ((h8.getD h10.toNat ([], (false, [], ()), ())).snd.fst.fst, (h8.getD h10.toNat ([], (false, [], ()), ())).snd.fst.snd.fst, ())).length ≤ 4294967296) then next (h7 ++ spDig (spZig (↑(List.length (h8.getD h10.toNat ([], (false, [], ()), ())).fst) : Int)) ++ (h8.getD h10.toNat ([], (false, [], ()), ())).fst ++ spBlob ((h8.getD h10.toNat ([], (false, [], ()), ())).snd.fst.fst, (h8.getD h10.toNat ([], (false, [], ()), ())).snd.fst.snd.fst, ())) (h8) (h9) (IntKind.i64.wrap (h10 + 1)) else none else none else none else none else out (.ret ((), ((h7, ()), ())))
noncomputable def itkbody_10 (n : Nat) (h7 : List Int) (h8 : List tHead.den) (h9 : Int) (h10 : Int) : Option (DenX lokbody_10.xs) := lpN tt hdkbody dr lpkbody 0 Go.Proofs.Try.f36 (topL Go.Proofs.Try.f36 0) n (lokbody_10.st.mk' ((h7, (h8, (h9, (h10, ())))), ())) (decX lokbody_10.xs)
theorem slkbody_10 (n : Nat) (h7 : List Int) (h8 : List tHead.den) (h9 : Int) (h10 : Int) : itkbody_10 (n + 1) h7 h8 h9 h10 = stepkbody_10 h7 h8 h9 h10 (itkbody_10 n) some := by kernel_rfl
theorem loopkbody (hs : List Head) (hm : hs.length ≤ maxLen) : ∀ (k i : Nat) (o : List Int), i ≤ hs.length → hs.length < i + k → o.length + (spWHeads (hs.drop i)).length ≤ 4294967296 →
    itkbody_10 k o hs (hs.length : Int) (i : Int) = some (.ret ((), ((o ++ spWHeads (hs.drop i), ()), ()))) := by
  intro k
  induction k with
  | zero => intro i o h1 h2; omega
  | succ k ih =>
    intro i o h1 h2 h3
    rw [slkbody_10]
    unfold stepkbody_10
    by_cases h4 : i < hs.length
    · have e : (hs.getD (i : Int).toNat ([], (false, [], ()), ()) : Head) = hs[i] := getD_lt h4
      rw [List.drop_eq_getElem_cons h4, ← e] at h3 ⊢
      rw [wrap_succ h4 hm]
      generalize (hs.getD (i : Int).toNat ([], (false, [], ()), ()) : Head) = x at *
      obtain ⟨x1, ⟨x2, x3, ⟨⟩⟩, ⟨⟩⟩ := x
      have eW : spWHeads ((x1, (x2, x3, ()), ()) :: hs.drop (i + 1)) = spDig (spZig x1.length) ++ (x1 ++ spBlob (x2, x3, ())) ++ spWHeads (hs.drop (i + 1)) := by simp [spWHeads, spWHead]
      rw [eW] at h3 ⊢
      simp only [List.length_append] at h3
      rw [bif_true (by simpa using h4), bif_true (by simp [h4]), bif_true (by simp; omega), bif_true (by simp; omega), bif_true (by simp; omega)]
      refine (ih (i + 1) _ h4 (by omega) (by simp only [List.length_append]; omega)).trans ?_
      simp only [List.append_assoc]
    · rw [List.drop_of_length_le (by omega)]
      rw [bif_false (by simpa using h4)]
      simp [spWHeads]
noncomputable def bodykbody (a0 : Int) (a1 : Int) (a2 : Bool) (a3 : List Int) (a4 : Bool) (a5 : List Int) (a6 : List tHead.den) : Option iokbody.Res := bif spShape (a0, a1, (a2, a3, ()), (a4, a5, ()), a6, ()) != 0 then some (Out.ret (([], spShape (a0, a1, (a2, a3, ()), (a4, a5, ()), a6, ()), ()), ())) else bif decide ([0].length + (spDigs [a0, IntKind.i64.wrap a1]).length ≤ 4294967296) then bif decide (([0] ++ spDigs [a0, IntKind.i64.wrap a1]).length + (spBlob (a2, a3, ())).length ≤ 4294967296) then bif decide (List.length ([0] ++ spDigs [a0, IntKind.i64.wrap a1] ++ spBlob (a2, a3, ())) + (spBlob (a4, a5, ())).length ≤ 4294967296) then bif decide (List.length ([0] ++ spDigs [a0, IntKind.i64.wrap a1] ++ spBlob (a2, a3, ()) ++ spBlob (a4, a5, ())) + (spDig (spZig (↑a6.length : Int))).length ≤ 4294967296) then (Fkbody_10 (([0] ++ spDigs [a0, IntKind.i64.wrap a1] ++ spBlob (a2, a3, ()) ++ spBlob (a4, a5, ()) ++ spDig (spZig (↑a6.length : Int)), (a6, ((↑a6.length : Int), (0, ())))), ())).run fun y => match y with | .ret ((), ((x16, ()), ())) => (bif decide (16384 < (↑x16.length : Int)) then some (Out.ret (([], 4, ()), ())) else some (Out.ret ((x16, 0, ()), ()))) else none else none else none else none
theorem runkbody (a0 : Int) (a1 : Int) (a2 : Bool) (a3 : List Int) (a4 : Bool) (a5 : List Int) (a6 : List tHead.den) : Io.run tt hdkbody dr lpkbody iokbody Go.Proofs.Try.f36 (((a0, a1, (a2, a3, ()), (a4, a5, ()), a6, ()), ()), ()) = bodykbody a0 a1 a2 a3 a4 a5 a6 := by kernel_rfl
theorem okkbody : HcOk prog 36 (ioHd iokbody Fkbody) := by
  have hcs : HcsOk prog cskbody := .cons okkshape (.cons okpPutAll (.cons okpPut (.cons okkwblob .nil)))
  refine fn_sound (n := 400) hm (cs := cskbody) hcs (lp := lpkbody) (fn := Go.Proofs.Try.f36) (by kernel_rfl) (by kernel_rfl) (by kernel_rfl) iokbody
    (.step (h0 := loHd lokbody_10 Fkbody_10) (by kernel_rfl) (loop_sound (n := 400) hm (cs := cskbody) hcs (lp := lpkbody) (fn := Go.Proofs.Try.f36) (.done (by kernel_rfl)) lokbody_10 Fkbody_10 ?_) (.done (by kernel_rfl))) Fkbody ?_
  · rintro ⟨⟨(o : List Int), (hs : List Head), (n : Int), (i : Int), ⟨⟩⟩, ⟨⟩⟩ y hw hy
    obtain ⟨hg, hy⟩ := Tr.guard hy
    simp only [Bool.and_eq_true, decide_eq_true_eq] at hg
    obtain ⟨hi, hn, hl⟩ := hg
    have hi : i = 0 := hi
    have hn : n = hs.length := hn
    subst hi hn
    refine ⟨hs.length + 1, (loopkbody hs hw.1.2.1.1 _ 0 o (by omega) (by omega) hl).trans ?_⟩
    rw [← hy]
    rfl
  · rintro ⟨⟨⟨(a0 : Int), (a1 : Int), ⟨(a2 : Bool), (a3 : List Int), ⟨⟩⟩, ⟨(a4 : Bool), (a5 : List Int), ⟨⟩⟩, (a6 : List Head), ⟨⟩⟩, ⟨⟩⟩, ⟨⟩⟩ out hw ho
    obtain ⟨hg, ho⟩ := Tr.guard ho
    cases ho
    refine (runkbody a0 a1 a2 a3 a4 a5 a6).trans ?_
    have ha1 : inR .i32 a1 := hw.1.1.2.1
    have ha1 : -2147483648 ≤ a1 ∧ a1 ≤ 2147483647 := by simpa [inR, IntKind.min, IntKind.max, IntKind.signed, IntKind.bits] using ha1
    have hg : (spBody (a0, a1, (a2, a3, ()), (a4, a5, ()), a6, ())).length ≤ 4294967000 := of_decide_eq_true hg
    show _ = some (Out.ret (((spBodyR (a0, a1, (a2, a3, ()), (a4, a5, ()), a6, ())).1, (spBodyR (a0, a1, (a2, a3, ()), (a4, a5, ()), a6, ())).2, ()), ()))
    have eb : spBody (a0, a1, (a2, a3, ()), (a4, a5, ()), a6, ()) = [0] ++ spDigs [a0, a1] ++ spBlob (a2, a3, ()) ++ spBlob (a4, a5, ()) ++ spDig (spZig a6.length) ++ spWHeads a6 := by
      simp [spBody, spDigs]
    have hl := hg
    rw [eb] at hl
    simp only [List.length_append] at hl
    unfold bodykbody spBodyR
    rw [wrap_i64 (n := a1) (by omega) (by omega)]
    generalize hr : ((a0, a1, (a2, a3, ()), (a4, a5, ()), a6, ()) : RowD) = r at *
    by_cases h1 : spShape r = 0
    rotate_left
    · have ec : spCheck r = spShape r := by unfold spCheck; rw [if_pos h1]
      rw [bif_true (by simpa using h1), ec, if_neg h1]
    have ec : spCheck r = if 16384 < ((spBody r).length : Int) then 4 else 0 := by unfold spCheck; rw [if_neg (notNe h1)]
    rw [bif_false (by simpa using h1), bif_true (by simp; omega), bif_true (by simp; omega), bif_true (by simp; omega), bif_true (by simp; omega)]
    unfold Fkbody_10
    simp only [Tr.run_ite, Tr.run_ret]
    rw [if_pos (by simp; omega), ← eb, ec]
    by_cases h2 : 16384 < ((spBody r).length : Int)
    · rw [bif_true (by simpa using h2), if_pos h2]
      rfl
    · rw [bif_false (by simpa using h2), if_neg h2]
      rfl

/-! ### leat/rec.Put -/
noncomputable abbrev iokPut : Io := ⟨[dRow], [], [], [dO, dI], none⟩
noncomputable def FkPut (d : iokPut.In) : Tr iokPut.Res := .ite (spRoom d.1.1) (.ret (.ret (((spPutR d.1.1).1, (spPutR d.1.1).2, ()), ()))) .no
noncomputable abbrev cskPut : List (Nat × Hc) := [(36, ioHd iokbody Fkbody), (37, ioHd iopPut FpPut)]
noncomputable def hdkPut : Hd := hdT cskPut
noncomputable def lpkPut : Lp := lpT []

noncomputable def bodykPut (a0 : Int) (a1 : Int) (a2 : Bool) (a3 : List Int) (a4 : Bool) (a5 : List Int) (a6 : List tHead.den) : Option iokPut.Res := bif spRoom (a0, a1, (a2, a3, ()), (a4, a5, ()), a6, ()) then bif (spBodyR (a0, a1, (a2, a3, ()), (a4, a5, ()), a6, ())).snd != 0 then some (Out.ret (([], (spBodyR (a0, a1, (a2, a3, ()), (a4, a5, ()), a6, ())).snd, ()), ())) else bif decide ((spDig (spZig (↑(spBodyR (a0, a1, (a2, a3, ()), (a4, a5, ()), a6, ())).fst.length : Int))).length + (spBodyR (a0, a1, (a2, a3, ()), (a4, a5, ()), a6, ())).fst.length ≤ 4294967296) then some (Out.ret ((spDig (spZig (↑(spBodyR (a0, a1, (a2, a3, ()), (a4, a5, ()), a6, ())).fst.length : Int)) ++ (spBodyR (a0, a1, (a2, a3, ()), (a4, a5, ()), a6, ())).fst, 0, ()), ())) else none else none
theorem runkPut (a0 : Int) (a1 : Int) (a2 : Bool) (a3 : List Int) (a4 : Bool) (a5 : List Int) (a6 : List tHead.den) : Io.run tt hdkPut dr lpkPut iokPut Go.Proofs.Try.f15 (((a0, a1, (a2, a3, ()), (a4, a5, ()), a6, ()), ()), ()) = bodykPut a0 a1 a2 a3 a4 a5 a6 := by kernel_rfl
theorem okkPut : HcOk prog 15 (ioHd iokPut FkPut) := by
  refine fn_sound (n := 400) hm (cs := cskPut) (.cons okkbody (.cons okpPut .nil)) (lp := lpkPut) (fn := Go.Proofs.Try.f15) (by kernel_rfl) (by kernel_rfl) (by kernel_rfl) iokPut (.done (by kernel_rfl)) FkPut ?_
  rintro ⟨⟨⟨(a0 : Int), (a1 : Int), ⟨(a2 : Bool), (a3 : List Int), ⟨⟩⟩, ⟨(a4 : Bool), (a5 : List Int), ⟨⟩⟩, (a6 : List Head), ⟨⟩⟩, ⟨⟩⟩, ⟨⟩⟩ out hw ho
  obtain ⟨hg, ho⟩ := Tr.guard ho
  cases ho
  refine (runkPut a0 a1 a2 a3 a4 a5 a6).trans ?_
  show _ = some (Out.ret (((spPutR (a0, a1, (a2, a3, ()), (a4, a5, ()), a6, ())).1, (spPutR (a0, a1, (a2, a3, ()), (a4, a5, ()), a6, ())).2, ()), ()))
  have hg : spRoom (a0, a1, (a2, a3, ()), (a4, a5, ()), a6, ()) = true := hg
  unfold bodykPut
  generalize ((a0, a1, (a2, a3, ()), (a4, a5, ()), a6, ()) : RowD) = r at *
  have hl : (spBody r).length ≤ 4294967000 := of_decide_eq_true hg
  rw [bif_true hg]
  by_cases h1 : spCheck r = 0
  · have e1 : spBodyR r = (spBody r, 0) := by unfold spBodyR; rw [if_pos h1]
    have e2 : spPutR r = (spDig (spZig (spBody r).length) ++ spBody r, 0) := by unfold spPutR; rw [if_pos h1]
    have := spDig_len (spZig (spBody r).length)
    rw [e1, e2]
    rw [bif_false (by rfl), bif_true (by simp; omega)]
  · have e1 : spBodyR r = ([], spCheck r) := by unfold spBodyR; rw [if_neg h1]
    have e2 : spPutR r = ([], spCheck r) := by unfold spPutR; rw [if_neg h1]
    rw [e1, e2, bif_true (by simpa using h1)]

/-! ### leat/rec.Size -/
noncomputable abbrev iokSize : Io := ⟨[dRow], [], [], [dI, dI], none⟩
noncomputable def FkSize (d : iokSize.In) : Tr iokSize.Res := .ite (spRoom d.1.1) (.ret (.ret ((((spPutR d.1.1).1.length : Int), (spPutR d.1.1).2, ()), ()))) .no
noncomputable abbrev cskSize : List (Nat × Hc) := [(15, ioHd iokPut FkPut)]
noncomputable def hdkSize : Hd := hdT cskSize
noncomputable def lpkSize : Lp := lpT []

noncomputable def bodykSize (a0 : Int) (a1 : Int) (a2 : Bool) (a3 : List Int) (a4 : Bool) (a5 : List Int) (a6 : List tHead.den) : Option iokSize.Res := bif spRoom (a0, a1, (a2, a3, ()), (a4, a5, ()), a6, ()) then some (Out.ret (((↑(spPutR (a0, a1, (a2, a3, ()), (a4, a5, ()), a6, ())).fst.length : Int), (spPutR (a0, a1, (a2, a3, ()), (a4, a5, ()), a6, ())).snd, ()), ())) else none
theorem runkSize (a0 : Int) (a1 : Int) (a2 : Bool) (a3 : List Int) (a4 : Bool) (a5 : List Int) (a6 : List tHead.den) : Io.run tt hdkSize dr lpkSize iokSize Go.Proofs.Try.f26 (((a0, a1, (a2, a3, ()), (a4, a5, ()), a6, ()), ()), ()) = bodykSize a0 a1 a2 a3 a4 a5 a6 := by kernel_rfl
theorem okkSize : HcOk prog 26 (ioHd iokSize FkSize) := by
  refine fn_sound (n := 400) hm (cs := cskSize) (.cons okkPut .nil) (lp := lpkSize) (fn := Go.Proofs.Try.f26) (by kernel_rfl) (by kernel_rfl) (by kernel_rfl) iokSize (.done (by kernel_rfl)) FkSize ?_
  rintro ⟨⟨⟨(a0 : Int), (a1 : Int), ⟨(a2 : Bool), (a3 : List Int), ⟨⟩⟩, ⟨(a4 : Bool), (a5 : List Int), ⟨⟩⟩, (a6 : List Head), ⟨⟩⟩, ⟨⟩⟩, ⟨⟩⟩ out hw ho
  obtain ⟨hg, ho⟩ := Tr.guard ho
  cases ho
  refine (runkSize a0 a1 a2 a3 a4 a5 a6).trans ?_
  have hg : spRoom (a0, a1, (a2, a3, ()), (a4, a5, ()), a6, ()) = true := hg
  unfold bodykSize
  rw [bif_true hg]

/-! ### leat/rec.Check -/
noncomputable abbrev iokCheck : Io := ⟨[dRow], [], [], [dI], none⟩
noncomputable def FkCheck (d : iokCheck.In) : Tr iokCheck.Res := .ite (spRoom d.1.1) (.ret (.ret ((spCheck d.1.1, ()), ()))) .no
noncomputable abbrev cskCheck : List (Nat × Hc) := [(36, ioHd iokbody Fkbody)]
noncomputable def hdkCheck : Hd := hdT cskCheck
noncomputable def lpkCheck : Lp := lpT []

noncomputable def bodykCheck (a0 : Int) (a1 : Int) (a2 : Bool) (a3 : List Int) (a4 : Bool) (a5 : List Int) (a6 : List tHead.den) : Option iokCheck.Res := bif spRoom (a0, a1, (a2, a3, ()), (a4, a5, ()), a6, ()) then some (Out.ret (((spBodyR (a0, a1, (a2, a3, ()), (a4, a5, ()), a6, ())).snd, ()), ())) else none
theorem runkCheck (a0 : Int) (a1 : Int) (a2 : Bool) (a3 : List Int) (a4 : Bool) (a5 : List Int) (a6 : List tHead.den) : Io.run tt hdkCheck dr lpkCheck iokCheck Go.Proofs.Try.f24 (((a0, a1, (a2, a3, ()), (a4, a5, ()), a6, ()), ()), ()) = bodykCheck a0 a1 a2 a3 a4 a5 a6 := by kernel_rfl
theorem okkCheck : HcOk prog 24 (ioHd iokCheck FkCheck) := by
  refine fn_sound (n := 400) hm (cs := cskCheck) (.cons okkbody .nil) (lp := lpkCheck) (fn := Go.Proofs.Try.f24) (by kernel_rfl) (by kernel_rfl) (by kernel_rfl) iokCheck (.done (by kernel_rfl)) FkCheck ?_
  rintro ⟨⟨⟨(a0 : Int), (a1 : Int), ⟨(a2 : Bool), (a3 : List Int), ⟨⟩⟩, ⟨(a4 : Bool), (a5 : List Int), ⟨⟩⟩, (a6 : List Head), ⟨⟩⟩, ⟨⟩⟩, ⟨⟩⟩ out hw ho
  obtain ⟨hg, ho⟩ := Tr.guard ho
  cases ho
  refine (runkCheck a0 a1 a2 a3 a4 a5 a6).trans ?_
  have hg : spRoom (a0, a1, (a2, a3, ()), (a4, a5, ()), a6, ()) = true := hg
  show _ = some (Out.ret ((spCheck (a0, a1, (a2, a3, ()), (a4, a5, ()), a6, ()), ()), ()))
  unfold bodykCheck
  generalize ((a0, a1, (a2, a3, ()), (a4, a5, ()), a6, ()) : RowD) = r at *
  rw [bif_true hg]
  by_cases h1 : spCheck r = 0
  · have e1 : spBodyR r = (spBody r, 0) := by unfold spBodyR; rw [if_pos h1]
    rw [e1, h1]
  · have e1 : spBodyR r = ([], spCheck r) := by unfold spBodyR; rw [if_neg h1]
    rw [e1]

end
end Go.Proofs.Ytnppjkijhcampaa.Sym
