/- leatref07: take, heads, row, Get. -/
import Derived.Test.YtnppjkijhcampaaCRtwin

namespace Go.Proofs.Ytnppjkijhcampaa.Sym
open Go
set_option linter.unusedSimpArgs false
set_option linter.unusedVariables false
noncomputable section

/-- A number of 32 bits read: the number, the place behind, the error. -/
noncomputable def spNum (b : List Int) (p : Int) : Int × Int × Int := (IntKind.wrap .i32 (spZag (spGet 5 15 b p).1), (spGet 5 15 b p).2.1, (spGet 5 15 b p).2.2)
/-- A blob read: the blob, the place behind, the error. -/
noncomputable def spTake (b : List Int) (p : Int) (least : Int) : Blob × Int × Int :=
  if (spNum b p).2.2 ≠ 0 then ((false, [], ()), 0, (spNum b p).2.2)
  else if (spNum b p).1 < least then ((false, [], ()), 0, 5)
  else if (spNum b p).1 < 0 then ((true, [], ()), (spNum b p).2.1, 0)
  else if (b.length : Int) - (spNum b p).2.1 < (spNum b p).1 then ((false, [], ()), 0, 1)
  else ((false, (b.drop (spNum b p).2.1.toNat).take (spNum b p).1.toNat, ()), (spNum b p).2.1 + (spNum b p).1, 0)
/-- n headers read behind those that are there. -/
noncomputable def spHeadsN (b : List Int) : Nat → List Head → Int → List Head × Int × Int
  | 0, out, p => (out, p, 0)
  | n + 1, out, p =>
    if (spTake b p 0).2.2 ≠ 0 then ([], 0, (spTake b p 0).2.2)
    else if (spUtf (spTake b p 0).1.2.1).2 = false then ([], 0, 6)
    else if (spTake b (spTake b p 0).2.1 (-1)).2.2 ≠ 0 then ([], 0, (spTake b (spTake b p 0).2.1 (-1)).2.2)
    else spHeadsN b n (out ++ [((spTake b p 0).1.2.1, (spTake b (spTake b p 0).2.1 (-1)).1, ())]) (spTake b (spTake b p 0).2.1 (-1)).2.1
theorem spHeadsN_err (b : List Int) : ∀ (n : Nat) (o : List Head) (p : Int), (spHeadsN b n o p).2.2 ≠ 0 → (spHeadsN b n o p).1 = [] ∧ (spHeadsN b n o p).2.1 = 0
  | 0, o, p, h => absurd rfl h
  | n + 1, o, p, h => by
    unfold spHeadsN at h ⊢
    split
    · exact ⟨rfl, rfl⟩
    split
    · exact ⟨rfl, rfl⟩
    split
    · exact ⟨rfl, rfl⟩
    rename_i h1 h2 h3
    rw [if_neg h1, if_neg h2, if_neg h3] at h
    exact spHeadsN_err b n _ _ h
noncomputable def spHeads (b : List Int) (p : Int) : List Head × Int × Int :=
  if (spNum b p).2.2 ≠ 0 then ([], 0, (spNum b p).2.2)
  else if (spNum b p).1 < 0 then ([], 0, 5)
  else if 16 < (spNum b p).1 then ([], 0, 9)
  else spHeadsN b (spNum b p).1.toNat [] (spNum b p).2.1
def spNone : RowD := (0, 0, (false, [], ()), (false, [], ()), [], ())
noncomputable def spRow (b : List Int) : RowD × Int :=
  if b.length = 0 then (spNone, 1)
  else if b.getD 0 0 ≠ 0 then (spNone, 71)
  else if (spGet 10 1 b 1).2.2 ≠ 0 then (spNone, (spGet 10 1 b 1).2.2)
  else if (spNum b (spGet 10 1 b 1).2.1).2.2 ≠ 0 then (spNone, (spNum b (spGet 10 1 b 1).2.1).2.2)
  else if (spNum b (spGet 10 1 b 1).2.1).1 < 0 then (spNone, 72)
  else if (spTake b (spNum b (spGet 10 1 b 1).2.1).2.1 (-1)).2.2 ≠ 0 then (spNone, (spTake b (spNum b (spGet 10 1 b 1).2.1).2.1 (-1)).2.2)
  else if (spTake b (spTake b (spNum b (spGet 10 1 b 1).2.1).2.1 (-1)).2.1 (-1)).2.2 ≠ 0 then (spNone, (spTake b (spTake b (spNum b (spGet 10 1 b 1).2.1).2.1 (-1)).2.1 (-1)).2.2)
  else if (spHeads b (spTake b (spTake b (spNum b (spGet 10 1 b 1).2.1).2.1 (-1)).2.1 (-1)).2.1).2.2 ≠ 0 then (spNone, (spHeads b (spTake b (spTake b (spNum b (spGet 10 1 b 1).2.1).2.1 (-1)).2.1 (-1)).2.1).2.2)
  else if (spHeads b (spTake b (spTake b (spNum b (spGet 10 1 b 1).2.1).2.1 (-1)).2.1 (-1)).2.1).2.1 < (b.length : Int) then (spNone, 2)
  else ((spZag (spGet 10 1 b 1).1, (spNum b (spGet 10 1 b 1).2.1).1, (spTake b (spNum b (spGet 10 1 b 1).2.1).2.1 (-1)).1, (spTake b (spTake b (spNum b (spGet 10 1 b 1).2.1).2.1 (-1)).2.1 (-1)).1, (spHeads b (spTake b (spTake b (spNum b (spGet 10 1 b 1).2.1).2.1 (-1)).2.1 (-1)).2.1).1, ()), 0)
noncomputable def spRec (b : List Int) (p : Int) : RowD × Int × Int :=
  if (spNum b p).2.2 ≠ 0 then (spNone, 0, (spNum b p).2.2)
  else if (spNum b p).1 < 0 then (spNone, 0, 5)
  else if 16384 < (spNum b p).1 then (spNone, 0, 4)
  else if (b.length : Int) - (spNum b p).2.1 < (spNum b p).1 then (spNone, 0, 1)
  else if (spRow ((b.drop (spNum b p).2.1.toNat).take (spNum b p).1.toNat)).2 ≠ 0 then (spNone, 0, (spRow ((b.drop (spNum b p).2.1.toNat).take (spNum b p).1.toNat)).2)
  else ((spRow ((b.drop (spNum b p).2.1.toNat).take (spNum b p).1.toNat)).1, (spNum b p).2.1 + (spNum b p).1, 0)

theorem Tr.run_of_val {α R : Type} : ∀ {t : Tr α} {K : α → Option R} {a : α}, t.val = some a → t.run K = K a
  | .ret a, K, b, h => by cases h; rfl
  | .no, K, b, h => by cases h
  | .ite c t e, K, b, h => by
    cases c with
    | true => exact Tr.run_of_val (t := t) h
    | false => exact Tr.run_of_val (t := e) h
/-- A contract that says no more. -/
theorem HcOk.weak {P : Program} {f : Nat} {io : Io} {F F' : io.In → Tr io.Res} (hF : ∀ d y, (F' d).val = some y → (F d).val = some y) (h : HcOk P f (ioHd io F)) : HcOk P f (ioHd io F') := by
  intro R args id A K r Fr G ts cst w vals hid hr Rl hv
  refine h R args id A K r Fr G ts cst w vals hid ?_ Rl hv
  unfold ioHd at hr ⊢
  split at hr
  · cases hr
  · split at hr
    · cases hr
    · rename_i a β1 e1 o β e2
      simp only at hr ⊢
      simp only [cond_eq_ite] at hr ⊢
      split at hr
      · rename_i hc
        rw [if_pos hc]
        obtain ⟨y, h1, h2⟩ := Tr.run_val hr
        rw [Tr.run_of_val (hF _ _ h1)]
        exact h2
      · cases hr
theorem spGet_err {m : Nat} {t : Int} {b : List Int} {p : Int} (h : (spGet m t b p).2.2 ≠ 0) : (spGet m t b p).1 = 0 ∧ (spGet m t b p).2.1 = 0 := by
  unfold spGet at h ⊢
  split
  · exact ⟨rfl, rfl⟩
  · split
    · rename_i h1 h2
      rw [if_neg h1, if_pos h2] at h
      exact absurd rfl h
    · exact ⟨rfl, rfl⟩
noncomputable def FrNum (d : iorGet32.In) : Tr iorGet32.Res := .ret (.ret (((spNum d.1.1 d.1.2.1).1, (spNum d.1.1 d.1.2.1).2.1, (spNum d.1.1 d.1.2.1).2.2, ()), ()))
theorem okrNum : HcOk prog 32 (ioHd iorGet32 FrNum) := by
  refine okrGet32.weak ?_
  rintro ⟨⟨(b : List Int), (p : Int), ⟨⟩⟩, ⟨⟩⟩ y h
  rw [← h]
  unfold FrGet32 FrNum spNum
  simp only [Tr.val_ite, Tr.val_ret, decide_eq_true_eq]
  by_cases h1 : (spGet 5 15 b p).2.2 = 0
  · rw [if_pos h1, h1]
  · obtain ⟨h2, h3⟩ := spGet_err h1
    rw [if_neg h1, h2, h3]
    rfl
noncomputable def FrLong (d : iorGet.In) : Tr iorGet.Res := .ret (.ret ((spZag (spGet 10 1 d.1.1 d.1.2.1).1, (spGet 10 1 d.1.1 d.1.2.1).2.1, (spGet 10 1 d.1.1 d.1.2.1).2.2, ()), ()))
theorem okrLong : HcOk prog 56 (ioHd iorGet FrLong) := by
  refine okrGet.weak ?_
  rintro ⟨⟨(b : List Int), (p : Int), ⟨⟩⟩, ⟨⟩⟩ y h
  rw [← h]
  unfold FrGet FrLong
  simp only [Tr.val_ite, Tr.val_ret, decide_eq_true_eq]
  by_cases h1 : (spGet 10 1 b p).2.2 = 0
  · rw [if_pos h1, h1]
  · obtain ⟨h2, h3⟩ := spGet_err h1
    rw [if_neg h1, h2, h3]
    rfl

theorem spGet_ok {m : Nat} {t : Int} {b : List Int} {p : Int} (h : (spGet m t b p).2.2 = 0) : 0 ≤ p ∧ p < (spGet m t b p).2.1 ∧ (spGet m t b p).2.1 ≤ b.length := by
  unfold spGet at h ⊢
  split
  · rename_i h1
    rw [if_pos h1] at h
    cases h
  · rename_i h1
    rw [if_neg h1] at h
    split
    · rename_i h2
      have h3 := spRd_le m t (b.drop p.toNat) 0 h2
      simp only [List.length_drop] at h3
      generalize (spRd m t (b.drop p.toNat) 0).1 = k at h3 ⊢
      simp only
      omega
    · rename_i h2
      rw [if_neg h2] at h
      exact absurd h h2
theorem spNum_ok {b : List Int} {p : Int} (h : (spNum b p).2.2 = 0) : 0 ≤ p ∧ p < (spNum b p).2.1 ∧ (spNum b p).2.1 ≤ b.length := spGet_ok h
theorem spNum_range {b : List Int} {p : Int} : -2147483648 ≤ (spNum b p).1 ∧ (spNum b p).1 ≤ 2147483647 := by
  have := inR_wrap .i32 (spZag (spGet 5 15 b p).1)
  simp [inR, IntKind.min, IntKind.max, IntKind.signed, IntKind.bits] at this
  exact this

/-! ### leat/leatref07.take -/

noncomputable abbrev iortake : Io := ⟨[dL, dI, d32], [], [], [dBlob, dI, dI], none⟩
noncomputable def Frtake (d : iortake.In) : Tr iortake.Res := .ret (.ret (((spTake d.1.1 d.1.2.1 d.1.2.2.1).1, (spTake d.1.1 d.1.2.1 d.1.2.2.1).2.1, (spTake d.1.1 d.1.2.1 d.1.2.2.1).2.2, ()), ()))
noncomputable abbrev csrtake : List (Nat × Hc) := [(32, ioHd iorGet32 FrNum), (23, ioHd ioCopy FCopy)]
noncomputable def hdrtake : Hd := hdT csrtake
noncomputable def lprtake : Lp := lpT []

noncomputable def bodyrtake (a0 : List Int) (a1 : Int) (a2 : Int) : Option iortake.Res := bif (spGet 5 15 a0 a1).snd.snd != 0 then some (Out.ret (((false, [], ()), 0, (spGet 5 15 a0 a1).snd.snd, ()), ())) else bif decide (IntKind.i32.wrap (spZag (spGet 5 15 a0 a1).fst) < a2) then some (Out.ret (((false, [], ()), 0, 5, ()), ())) else bif decide (IntKind.i32.wrap (spZag (spGet 5 15 a0 a1).fst) < 0) then some (Out.ret (((true, [], ()), (spGet 5 15 a0 a1).snd.fst, 0, ()), ())) else bif decide (IntKind.i64.wrap ((↑a0.length : Int) - (spGet 5 15 a0 a1).snd.fst) < IntKind.i64.wrap (IntKind.i32.wrap (spZag (spGet 5 15 a0 a1).fst))) then some (Out.ret (((false, [], ()), 0, 1, ()), ())) else bif decide (0 ≤ (spGet 5 15 a0 a1).snd.fst) && (decide ((spGet 5 15 a0 a1).snd.fst ≤ IntKind.i64.wrap ((spGet 5 15 a0 a1).snd.fst + IntKind.i64.wrap (IntKind.i32.wrap (spZag (spGet 5 15 a0 a1).fst)))) && decide (IntKind.i64.wrap ((spGet 5 15 a0 a1).snd.fst + IntKind.i64.wrap (IntKind.i32.wrap (spZag (spGet 5 15 a0 a1).fst))) ≤ (↑a0.length : Int))) then bif decide ((List.drop (spGet 5 15 a0 a1).snd.fst.toNat (List.take (IntKind.i64.wrap ((spGet 5 15 a0 a1).snd.fst + IntKind.i64.wrap (IntKind.i32.wrap (spZag (spGet 5 15 a0 a1).fst)))).toNat a0)).length ≤ 4294967296) then some (Out.ret (((false, List.drop (spGet 5 15 a0 a1).snd.fst.toNat (List.take (IntKind.i64.wrap ((spGet 5 15 a0 a1).snd.fst + IntKind.i64.wrap (IntKind.i32.wrap (spZag (spGet 5 15 a0 a1).fst)))).toNat a0), ()), IntKind.i64.wrap ((spGet 5 15 a0 a1).snd.fst + IntKind.i64.wrap (IntKind.i32.wrap (spZag (spGet 5 15 a0 a1).fst))), 0, ()), ())) else none else none
theorem runrtake (a0 : List Int) (a1 : Int) (a2 : Int) : Io.run tt hdrtake dr lprtake iortake Go.Proofs.Try.f57 ((a0, a1, a2, ()), ()) = bodyrtake a0 a1 a2 := by kernel_rfl
theorem okrtake : HcOk prog 57 (ioHd iortake Frtake) := by
  refine fn_sound (n := 400) hm (cs := csrtake) (.cons okrNum (.cons okCopy .nil)) (lp := lprtake) (fn := Go.Proofs.Try.f57) (by kernel_rfl) (by kernel_rfl) (by kernel_rfl) iortake (.done (by kernel_rfl)) Frtake ?_
  rintro ⟨⟨(b : List Int), (p : Int), (l : Int), ⟨⟩⟩, ⟨⟩⟩ out hw ho
  cases ho
  refine (runrtake b p l).trans ?_
  have hb : b.length ≤ maxLen := hw.1.1.1
  rw [maxLen_eq] at hb
  show _ = some (Out.ret (((spTake b p l).1, (spTake b p l).2.1, (spTake b p l).2.2, ()), ()))
  change (bif (spNum b p).2.2 != 0 then some (Out.ret (((false, [], ()), 0, (spNum b p).2.2, ()), ())) else bif decide ((spNum b p).1 < l) then _ else bif decide ((spNum b p).1 < 0) then some (Out.ret (((true, [], ()), (spNum b p).2.1, 0, ()), ())) else bif decide (IntKind.i64.wrap ((b.length : Int) - (spNum b p).2.1) < IntKind.i64.wrap (spNum b p).1) then _
    else bif decide (0 ≤ (spNum b p).2.1) && (decide ((spNum b p).2.1 ≤ IntKind.i64.wrap ((spNum b p).2.1 + IntKind.i64.wrap (spNum b p).1)) && decide (IntKind.i64.wrap ((spNum b p).2.1 + IntKind.i64.wrap (spNum b p).1) ≤ (b.length : Int))) then bif decide ((List.drop (spNum b p).2.1.toNat (List.take (IntKind.i64.wrap ((spNum b p).2.1 + IntKind.i64.wrap (spNum b p).1)).toNat b)).length ≤ 4294967296) then some (Out.ret (((false, List.drop (spNum b p).2.1.toNat (List.take (IntKind.i64.wrap ((spNum b p).2.1 + IntKind.i64.wrap (spNum b p).1)).toNat b), ()), IntKind.i64.wrap ((spNum b p).2.1 + IntKind.i64.wrap (spNum b p).1), 0, ()), ())) else none else none) = _
  have hr := @spNum_range b p
  by_cases h0 : (spNum b p).2.2 = 0
  · have hk := spNum_ok h0
    rw [bif_false (by simpa using h0)]
    by_cases h1 : (spNum b p).1 < l
    · have e : spTake b p l = ((false, [], ()), 0, 5) := by unfold spTake; rw [if_neg (by simpa using h0), if_pos h1]
      rw [e, bif_true (by simpa using h1)]
      first | done | rfl
    · rw [bif_false (by simpa using h1)]
      by_cases h2 : (spNum b p).1 < 0
      · have e : spTake b p l = ((true, [], ()), (spNum b p).2.1, 0) := by unfold spTake; rw [if_neg (by simpa using h0), if_neg h1, if_pos h2]
        rw [e, bif_true (by simpa using h2)]
      · rw [bif_false (by simpa using h2), wrap_i64 (n := (b.length : Int) - (spNum b p).2.1) (by omega) (by omega), wrap_i64 (n := (spNum b p).1) (by omega) (by omega)]
        by_cases h3 : (b.length : Int) - (spNum b p).2.1 < (spNum b p).1
        · have e : spTake b p l = ((false, [], ()), 0, 1) := by unfold spTake; rw [if_neg (by simpa using h0), if_neg h1, if_neg h2, if_pos h3]
          rw [e, bif_true (by simpa using h3)]
          first | done | rfl
        · have e : spTake b p l = ((false, (b.drop (spNum b p).2.1.toNat).take (spNum b p).1.toNat, ()), (spNum b p).2.1 + (spNum b p).1, 0) := by unfold spTake; rw [if_neg (by simpa using h0), if_neg h1, if_neg h2, if_neg h3]
          rw [e, bif_false (by simpa using h3), wrap_i64 (n := (spNum b p).2.1 + (spNum b p).1) (by omega) (by omega)]
          rw [bif_true (by simp; omega), List.drop_take, show ((spNum b p).2.1 + (spNum b p).1).toNat - (spNum b p).2.1.toNat = (spNum b p).1.toNat by omega, bif_true (by simp; omega)]
  · have e : spTake b p l = ((false, [], ()), 0, (spNum b p).2.2) := by unfold spTake; rw [if_pos h0]
    rw [e, bif_true (by simpa using h0)]

/-! ### leat/leatref07.heads -/
noncomputable abbrev iorheads : Io := ⟨[dL, dI], [], [], [dHeads, dI, dI], none⟩
noncomputable def Frheads (d : iorheads.In) : Tr iorheads.Res := .ret (.ret (((spHeads d.1.1 d.1.2.1).1, (spHeads d.1.1 d.1.2.1).2.1, (spHeads d.1.1 d.1.2.1).2.2, ()), ()))
noncomputable abbrev csrheads : List (Nat × Hc) := [(32, ioHd iorGet32 FrNum), (57, ioHd iortake Frtake), (41, ioHd iorUtf FrUtf)]
noncomputable def hdrheads : Hd := hdT csrheads
noncomputable abbrev lorheads_12 : Lo := ⟨⟨[.one (.hol (.sl 5 (Ty.int IntKind.u8))), .one (.hol (.int IntKind.i64)), .any, .any, .any, .any, .any, .one (.hol (.int IntKind.i32)), .any, .any, .one (.onl 49 (Ty.str.prod ((Ty.bool.prod ((Ty.sl 5 (Ty.int IntKind.u8)).prod Ty.unit)).prod Ty.unit)) 21), .one (.hol (.int IntKind.i64)), .any, .any, .any, .any, .any, .any, .any, .any, .any, .any, .any, .any, .any, .any, .any, .any, .any, .any, .any, .any, .any, .any, .any, .any, .any, .any, .any, .any, .any, .any, .any, .any, .any, .any, .any, .any, .any, .any, .any, .any, .any, .any, .any, .any, .any, .any, .any, .any, .any, .any, .any, .any, .any, .any, .any, .any, .any, .any, .any, .any, .any, .any, .any, .any, .any, .any, .any, .any, .any], []⟩, [(.ret, ⟨[.any, .any, .any, .any, .one (.onl 49 (Ty.str.prod ((Ty.bool.prod ((Ty.sl 5 (Ty.int IntKind.u8)).prod Ty.unit)).prod Ty.unit)) 9), .one (.hol (.int IntKind.i64)), .one (.hol (.int IntKind.i64)), .any, .any, .any, .any, .any, .any, .any, .any, .any, .any, .any, .any, .any, .any, .any, .any, .any, .any, .any, .any, .any, .any, .any, .any, .any, .any, .any, .any, .any, .any, .any, .any, .any, .any, .any, .any, .any, .any, .any, .any, .any, .any, .any, .any, .any, .any, .any, .any, .any, .any, .any, .any, .any, .any, .any, .any, .any, .any, .any, .any, .any, .any, .any, .any, .any, .any, .any, .any, .any, .any, .any, .any, .any, .any], []⟩), (.exit 0, ⟨[.any, .one (.hol (.int IntKind.i64)), .any, .any, .any, .any, .any, .any, .any, .any, .one (.onl 49 (Ty.str.prod ((Ty.bool.prod ((Ty.sl 5 (Ty.int IntKind.u8)).prod Ty.unit)).prod Ty.unit)) 21), .any, .any, .any, .any, .any, .any, .any, .any, .any, .any, .any, .any, .any, .any, .any, .any, .any, .any, .any, .any, .any, .any, .any, .any, .any, .any, .any, .any, .any, .any, .any, .any, .any, .any, .any, .any, .any, .any, .any, .any, .any, .any, .any, .any, .any, .any, .any, .any, .any, .any, .any, .any, .any, .any, .any, .any, .any, .any, .any, .any, .any, .any, .any, .any, .any, .any, .any, .any, .any, .any], []⟩)]⟩
-- Frheads_12 : lorheads_12.st.den → Tr (DenX lorheads_12.xs) | ((h2, (h3, (h4, (h5, (h6, ()))))), ())
noncomputable def Frheads_12 (d : lorheads_12.st.den) : Tr (DenX lorheads_12.xs) :=
  .ite (decide (d.1.2.2.2.2.1 = (0 : Int)) && (decide ((0 : Int) ≤ d.1.2.2.1) && (decide (d.1.2.2.1 ≤ (16 : Int)) && decide (d.1.2.2.2.1 = ([] : List Head)))))
    (.ite (decide ((spHeadsN d.1.1 (d.1.2.2.1 : Int).toNat [] d.1.2.1).2.2 = (0 : Int)))
      (.ret (.pan (.ret ((), (((spHeadsN d.1.1 (d.1.2.2.1 : Int).toNat [] d.1.2.1).2.1, ((spHeadsN d.1.1 (d.1.2.2.1 : Int).toNat [] d.1.2.1).1, ())), ())))))
      (.ret (.ret ((), (([], (0, ((spHeadsN d.1.1 (d.1.2.2.1 : Int).toNat [] d.1.2.1).2.2, ()))), ()))))) .no
noncomputable def lprheads : Lp := lpT [(12, loHd lorheads_12 Frheads_12)]
noncomputable def steprheads_12 {R : Type} (h2 : List Int) (h3 : Int) (h4 : Int) (h5 : List (Ty.str.prod ((Ty.bool.prod ((Ty.sl 5 (Ty.int IntKind.u8)).prod Ty.unit)).prod Ty.unit)).den) (h6 : Int) (next : List Int → Int → Int → List (Ty.str.prod ((Ty.bool.prod ((Ty.sl 5 (Ty.int IntKind.u8)).prod Ty.unit)).prod Ty.unit)).den → Int → Option R) (out : DenX lorheads_12.xs → Option R) : Option R := bif decide (h6 < IntKind.i64.wrap h4) then bif (spTake h2 h3 0).snd.snd != 0 then out (.ret ((), (([], (0, ((spTake h2 h3 0).snd.snd, ()))), ()))) else bif !(spUtf (spTake h2 h3 0).fst.snd.fst).snd then out (.ret ((), (([], (0, (6, ()))), ()))) else bif (spTake h2 (spTake h2 h3 0).snd.fst (-1)).snd.snd != 0 then out (.ret ((), (([], (0, ((spTake h2 (spTake h2 h3 0).snd.fst (-1)).snd.snd, ()))), ()))) else bif decide (h5.length + [((spTake h2 h3 0).fst.snd.fst, ((spTake h2 (spTake h2 h3 0).snd.fst (-1)).fst.fst, (spTake h2 (spTake h2 h3 0).snd.fst (-1)).fst.snd.fst, ()), ())].length ≤ 4294967296) then next (h2) ((spTake h2 (spTake h2 h3 0).snd.fst (-1)).snd.fst) (h4) (h5 ++ [((spTake h2 h3 0).fst.snd.fst, ((spTake h2 (spTake h2 h3 0).snd.fst (-1)).fst.fst, (spTake h2 (spTake h2 h3 0).snd.fst (-1)).fst.snd.fst, ()), ())]) (IntKind.i64.wrap (h6 + 1)) else none else out (.pan (.ret ((), ((h3, (h5, ())), ()))))
noncomputable def itrheads_12 (n : Nat) (h2 : List Int) (h3 : Int) (h4 : Int) (h5 : List (Ty.str.prod ((Ty.bool.prod ((Ty.sl 5 (Ty.int IntKind.u8)).prod Ty.unit)).prod Ty.unit)).den) (h6 : Int) : Option (DenX lorheads_12.xs) := lpN tt hdrheads dr lprheads 0 Go.Proofs.Try.f58 (topL Go.Proofs.Try.f58 0) n (lorheads_12.st.mk' ((h2, (h3, (h4, (h5, (h6, ()))))), ())) (decX lorheads_12.xs)
theorem slrheads_12 (n : Nat) (h2 : List Int) (h3 : Int) (h4 : Int) (h5 : List (Ty.str.prod ((Ty.bool.prod ((Ty.sl 5 (Ty.int IntKind.u8)).prod Ty.unit)).prod Ty.unit)).den) (h6 : Int) : itrheads_12 (n + 1) h2 h3 h4 h5 h6 = steprheads_12 h2 h3 h4 h5 h6 (itrheads_12 n) some := by kernel_rfl
theorem looprheads (b : List Int) (n : Int) (hn : 0 ≤ n) (hn' : n ≤ 16) : ∀ (k m : Nat) (p : Int) (o : List Head) (i : Int), i + m = n → 0 ≤ i → m < k → o.length = i.toNat →
    itrheads_12 k b p n o i = if (spHeadsN b m o p).2.2 = 0 then some (.pan (.ret ((), (((spHeadsN b m o p).2.1, ((spHeadsN b m o p).1, ())), ())))) else some (.ret ((), (([], (0, ((spHeadsN b m o p).2.2, ()))), ()))) := by
  intro k
  induction k with
  | zero => intro m p o i h1 h2 h3; omega
  | succ k ih =>
    intro m p o i h1 h2 h3 h4
    rw [slrheads_12]
    unfold steprheads_12
    rw [wrap_i64 (n := n) (by omega) (by omega)]
    cases m with
    | zero =>
      rw [bif_false (by simp; omega)]
      rw [if_pos (by rfl)]
      first | done | rfl
    | succ m =>
      rw [bif_true (by simp; omega)]
      by_cases a1 : (spTake b p 0).2.2 = 0
      · rw [bif_false (by simpa using a1)]
        by_cases a2 : (spUtf (spTake b p 0).1.2.1).2 = false
        · have e : spHeadsN b (m + 1) o p = ([], 0, 6) := by unfold spHeadsN; rw [if_neg (by simpa using a1), if_pos a2]
          rw [e, bif_true (by simpa using a2)]
          first | done | rfl
        · rw [bif_false (by simpa using a2)]
          by_cases a3 : (spTake b (spTake b p 0).2.1 (-1)).2.2 = 0
          · have e : spHeadsN b (m + 1) o p = spHeadsN b m (o ++ [((spTake b p 0).1.2.1, (spTake b (spTake b p 0).2.1 (-1)).1, ())]) (spTake b (spTake b p 0).2.1 (-1)).2.1 := by
              rw [spHeadsN, if_neg (by simpa using a1), if_neg a2, if_neg (by simpa using a3)]
            rw [e, bif_false (by simpa using a3), bif_true (by simp; omega), wrap_i64 (n := i + 1) (by omega) (by omega)]
            exact ih m _ _ (i + 1) (by omega) (by omega) (by omega) (by simp; omega)
          · have e : spHeadsN b (m + 1) o p = ([], 0, (spTake b (spTake b p 0).2.1 (-1)).2.2) := by rw [spHeadsN, if_neg (by simpa using a1), if_neg a2, if_pos a3]
            rw [e, bif_true (by simpa using a3), if_neg a3]
      · have e : spHeadsN b (m + 1) o p = ([], 0, (spTake b p 0).2.2) := by rw [spHeadsN, if_pos a1]
        rw [e, bif_true (by simpa using a1), if_neg a1]
noncomputable def bodyrheads (a0 : List Int) (a1 : Int) : Option iorheads.Res := bif (spGet 5 15 a0 a1).snd.snd != 0 then some (Out.ret (([], 0, (spGet 5 15 a0 a1).snd.snd, ()), ())) else bif decide (IntKind.i32.wrap (spZag (spGet 5 15 a0 a1).fst) < 0) then some (Out.ret (([], 0, 5, ()), ())) else bif decide (16 < IntKind.i32.wrap (spZag (spGet 5 15 a0 a1).fst)) then some (Out.ret (([], 0, 9, ()), ())) else (Frheads_12 ((a0, ((spGet 5 15 a0 a1).snd.fst, (IntKind.i32.wrap (spZag (spGet 5 15 a0 a1).fst), ([], (0, ()))))), ())).run fun y => match y with | .ret ((), ((x23, x24, x25, ()), ())) => (some (Out.ret ((x23, x24, x25, ()), ()))) | .pan (.ret ((), ((x26, x27, ()), ()))) => (some (Out.ret ((x27, x26, 0, ()), ())))
theorem runrheads (a0 : List Int) (a1 : Int) : Io.run tt hdrheads dr lprheads iorheads Go.Proofs.Try.f58 ((a0, a1, ()), ()) = bodyrheads a0 a1 := by kernel_rfl
theorem okrheads : HcOk prog 58 (ioHd iorheads Frheads) := by
  refine fn_sound (n := 400) hm (cs := csrheads) (.cons okrNum (.cons okrtake (.cons okrUtf .nil))) (lp := lprheads) (fn := Go.Proofs.Try.f58) (by kernel_rfl) (by kernel_rfl) (by kernel_rfl) iorheads
    (.step (h0 := loHd lorheads_12 Frheads_12) (by kernel_rfl) (loop_sound (n := 400) hm (cs := csrheads) (.cons okrNum (.cons okrtake (.cons okrUtf .nil))) (lp := lprheads) (fn := Go.Proofs.Try.f58) (.done (by kernel_rfl)) lorheads_12 Frheads_12 ?_) (.done (by kernel_rfl))) Frheads ?_
  · rintro ⟨⟨(b : List Int), (p : Int), (n : Int), (o : List Head), (i : Int), ⟨⟩⟩, ⟨⟩⟩ y hw hy
    obtain ⟨hg, hy⟩ := Tr.guard hy
    simp only [Bool.and_eq_true, decide_eq_true_eq] at hg
    obtain ⟨hi, h0, h16, ho⟩ := hg
    have hi : i = 0 := hi
    have h0 : 0 ≤ n := h0
    have h16 : n ≤ 16 := h16
    have ho : o = [] := ho
    subst hi ho
    refine ⟨n.toNat + 1, (looprheads b n h0 h16 _ n.toNat p [] 0 (by omega) (by omega) (by omega) rfl).trans ?_⟩
    rw [← hy]
    simp only [Tr.val_ite, decide_eq_true_eq, Tr.val_ret]
  · rintro ⟨⟨(b : List Int), (p : Int), ⟨⟩⟩, ⟨⟩⟩ out hw ho
    cases ho
    refine (runrheads b p).trans ?_
    show _ = some (Out.ret (((spHeads b p).1, (spHeads b p).2.1, (spHeads b p).2.2, ()), ()))
    have hr := @spNum_range b p
    unfold bodyrheads
    by_cases h0 : (spNum b p).2.2 = 0
    · have h0' : (spGet 5 15 b p).2.2 = 0 := h0
      rw [bif_false (by simpa using h0')]
      change (bif decide ((spNum b p).1 < 0) then _ else bif decide (16 < (spNum b p).1) then _ else (Frheads_12 ((b, ((spNum b p).2.1, ((spNum b p).1, ([], (0, ()))))), ())).run _) = _
      by_cases h1 : (spNum b p).1 < 0
      · have e : spHeads b p = ([], 0, 5) := by unfold spHeads; rw [if_neg (by simpa using h0), if_pos h1]
        rw [e, bif_true (by simpa using h1)]
        first | done | rfl
      · rw [bif_false (by simpa using h1)]
        by_cases h2 : 16 < (spNum b p).1
        · have e : spHeads b p = ([], 0, 9) := by unfold spHeads; rw [if_neg (by simpa using h0), if_neg h1, if_pos h2]
          rw [e, bif_true (by simpa using h2)]
          first | done | rfl
        · have e : spHeads b p = spHeadsN b (spNum b p).1.toNat [] (spNum b p).2.1 := by unfold spHeads; rw [if_neg (by simpa using h0), if_neg h1, if_neg h2]
          rw [e, bif_false (by simpa using h2)]
          unfold Frheads_12
          simp only [Tr.run_ite, Tr.run_ret]
          have hg : (decide True && (decide ((0 : Int) ≤ (spNum b p).1) && (decide ((spNum b p).1 ≤ (16 : Int)) && decide True))) = true := by
            simp only [Bool.and_eq_true, decide_eq_true_eq]
            exact ⟨trivial, by omega, by omega, trivial⟩
          rw [if_pos hg]
          by_cases h3 : (spHeadsN b (spNum b p).1.toNat [] (spNum b p).2.1).2.2 = 0
          · rw [if_pos (by simpa using h3), h3]
          · obtain ⟨e1, e2⟩ := spHeadsN_err b _ _ _ h3
            rw [if_neg (by simpa using h3), e1, e2]
    · have h0' : (spGet 5 15 b p).2.2 ≠ 0 := h0
      have e : spHeads b p = ([], 0, (spGet 5 15 b p).2.2) := by unfold spHeads; rw [if_pos h0]; rfl
      rw [e, bif_true (by simpa using h0')]

/-! ### leat/leatref07.row -/
noncomputable abbrev iorrow : Io := ⟨[dL], [], [], [dRow, dI], none⟩
noncomputable def Frrow (d : iorrow.In) : Tr iorrow.Res := .ret (.ret (((spRow d.1.1).1, (spRow d.1.1).2, ()), ()))
noncomputable abbrev csrrow : List (Nat × Hc) := [(56, ioHd iorGet FrLong), (32, ioHd iorGet32 FrNum), (57, ioHd iortake Frtake), (58, ioHd iorheads Frheads)]
noncomputable def hdrrow : Hd := hdT csrrow
noncomputable def lprrow : Lp := lpT []

noncomputable def bodyrrow (a0 : List Int) : Option iorrow.Res := bif (↑a0.length : Int) == 0 then some (Out.ret (((0, 0, (false, [], ()), (false, [], ()), [], ()), 1, ()), ())) else bif decide (0 ≤ 0) && decide (0 < (↑a0.length : Int)) then bif a0.getD (Int.toNat 0) 0 != 0 then some (Out.ret (((0, 0, (false, [], ()), (false, [], ()), [], ()), 71, ()), ())) else bif (spGet 10 1 a0 1).snd.snd != 0 then some (Out.ret (((0, 0, (false, [], ()), (false, [], ()), [], ()), (spGet 10 1 a0 1).snd.snd, ()), ())) else bif (spGet 5 15 a0 (spGet 10 1 a0 1).snd.fst).snd.snd != 0 then some (Out.ret (((0, 0, (false, [], ()), (false, [], ()), [], ()), (spGet 5 15 a0 (spGet 10 1 a0 1).snd.fst).snd.snd, ()), ())) else bif decide (IntKind.i32.wrap (spZag (spGet 5 15 a0 (spGet 10 1 a0 1).snd.fst).fst) < 0) then some (Out.ret (((0, 0, (false, [], ()), (false, [], ()), [], ()), 72, ()), ())) else bif (spTake a0 (spGet 5 15 a0 (spGet 10 1 a0 1).snd.fst).snd.fst (-1)).snd.snd != 0 then some (Out.ret (((0, 0, (false, [], ()), (false, [], ()), [], ()), (spTake a0 (spGet 5 15 a0 (spGet 10 1 a0 1).snd.fst).snd.fst (-1)).snd.snd, ()), ())) else bif (spTake a0 (spTake a0 (spGet 5 15 a0 (spGet 10 1 a0 1).snd.fst).snd.fst (-1)).snd.fst (-1)).snd.snd != 0 then some (Out.ret (((0, 0, (false, [], ()), (false, [], ()), [], ()), (spTake a0 (spTake a0 (spGet 5 15 a0 (spGet 10 1 a0 1).snd.fst).snd.fst (-1)).snd.fst (-1)).snd.snd, ()), ())) else bif (spHeads a0 (spTake a0 (spTake a0 (spGet 5 15 a0 (spGet 10 1 a0 1).snd.fst).snd.fst (-1)).snd.fst (-1)).snd.fst).snd.snd != 0 then some (Out.ret (((0, 0, (false, [], ()), (false, [], ()), [], ()), (spHeads a0 (spTake a0 (spTake a0 (spGet 5 15 a0 (spGet 10 1 a0 1).snd.fst).snd.fst (-1)).snd.fst (-1)).snd.fst).snd.snd, ()), ())) else bif decide ((spHeads a0 (spTake a0 (spTake a0 (spGet 5 15 a0 (spGet 10 1 a0 1).snd.fst).snd.fst (-1)).snd.fst (-1)).snd.fst).snd.fst < (↑a0.length : Int)) then some (Out.ret (((0, 0, (false, [], ()), (false, [], ()), [], ()), 2, ()), ())) else some (Out.ret (((spZag (spGet 10 1 a0 1).fst, IntKind.i32.wrap (spZag (spGet 5 15 a0 (spGet 10 1 a0 1).snd.fst).fst), ((spTake a0 (spGet 5 15 a0 (spGet 10 1 a0 1).snd.fst).snd.fst (-1)).fst.fst, (spTake a0 (spGet 5 15 a0 (spGet 10 1 a0 1).snd.fst).snd.fst (-1)).fst.snd.fst, ()), ((spTake a0 (spTake a0 (spGet 5 15 a0 (spGet 10 1 a0 1).snd.fst).snd.fst (-1)).snd.fst (-1)).fst.fst, (spTake a0 (spTake a0 (spGet 5 15 a0 (spGet 10 1 a0 1).snd.fst).snd.fst (-1)).snd.fst (-1)).fst.snd.fst, ()), (spHeads a0 (spTake a0 (spTake a0 (spGet 5 15 a0 (spGet 10 1 a0 1).snd.fst).snd.fst (-1)).snd.fst (-1)).snd.fst).fst, ()), 0, ()), ())) else none
theorem runrrow (a0 : List Int) : Io.run tt hdrrow dr lprrow iorrow Go.Proofs.Try.f33 ((a0, ()), ()) = bodyrrow a0 := by kernel_rfl
theorem okrrow : HcOk prog 33 (ioHd iorrow Frrow) := by
  refine fn_sound (n := 400) hm (cs := csrrow) (.cons okrLong (.cons okrNum (.cons okrtake (.cons okrheads .nil)))) (lp := lprrow) (fn := Go.Proofs.Try.f33) (by kernel_rfl) (by kernel_rfl) (by kernel_rfl) iorrow (.done (by kernel_rfl)) Frrow ?_
  rintro ⟨⟨(b : List Int), ⟨⟩⟩, ⟨⟩⟩ out hw ho
  cases ho
  refine (runrrow b).trans ?_
  show _ = some (Out.ret (((spRow b).1, (spRow b).2, ()), ()))
  unfold bodyrrow
  by_cases h0 : b.length = 0
  · have e : spRow b = (spNone, 1) := by unfold spRow; rw [if_pos h0]
    rw [e, bif_true (by simp [h0])]
    first | done | rfl
  rw [bif_false (beq_false_of_ne (by omega)), bif_true (by rw [Bool.and_eq_true, decide_eq_true_eq, decide_eq_true_eq]; omega)]
  by_cases h1 : b.getD 0 0 = 0
  rotate_left
  · have e : spRow b = (spNone, 71) := by unfold spRow; rw [if_neg h0, if_pos h1]
    have h1' : b.getD (Int.toNat 0) 0 ≠ 0 := h1
    rw [e, bif_true (by simpa using h1')]
    first | done | rfl
  have h1' : b.getD (Int.toNat 0) 0 = 0 := h1
  rw [bif_false (by simpa using h1')]
  by_cases h2 : (spGet 10 1 b 1).2.2 = 0
  rotate_left
  · have e : spRow b = (spNone, (spGet 10 1 b 1).2.2) := by unfold spRow; rw [if_neg h0, if_neg (by simpa using h1), if_pos h2]
    rw [e, bif_true (by simpa using h2)]
    first | done | rfl
  rw [bif_false (by simpa using h2)]
  generalize hq1 : (spGet 10 1 b 1).2.1 = q1
  change (bif (spNum b q1).2.2 != 0 then some (Out.ret ((spNone, (spNum b q1).2.2, ()), ())) else bif decide ((spNum b q1).1 < 0) then some (Out.ret ((spNone, 72, ()), ())) else bif (spTake b (spNum b q1).2.1 (-1)).2.2 != 0 then some (Out.ret ((spNone, (spTake b (spNum b q1).2.1 (-1)).2.2, ()), ())) else
    bif (spTake b (spTake b (spNum b q1).2.1 (-1)).2.1 (-1)).2.2 != 0 then some (Out.ret ((spNone, (spTake b (spTake b (spNum b q1).2.1 (-1)).2.1 (-1)).2.2, ()), ())) else
    bif (spHeads b (spTake b (spTake b (spNum b q1).2.1 (-1)).2.1 (-1)).2.1).2.2 != 0 then some (Out.ret ((spNone, (spHeads b (spTake b (spTake b (spNum b q1).2.1 (-1)).2.1 (-1)).2.1).2.2, ()), ())) else
    bif decide ((spHeads b (spTake b (spTake b (spNum b q1).2.1 (-1)).2.1 (-1)).2.1).2.1 < (b.length : Int)) then some (Out.ret ((spNone, 2, ()), ())) else
    some (Out.ret (((spZag (spGet 10 1 b 1).1, (spNum b q1).1, (spTake b (spNum b q1).2.1 (-1)).1, (spTake b (spTake b (spNum b q1).2.1 (-1)).2.1 (-1)).1, (spHeads b (spTake b (spTake b (spNum b q1).2.1 (-1)).2.1 (-1)).2.1).1, ()), 0, ()), ()))) = _
  have e : spRow b = if (spNum b q1).2.2 ≠ 0 then (spNone, (spNum b q1).2.2) else if (spNum b q1).1 < 0 then (spNone, 72) else if (spTake b (spNum b q1).2.1 (-1)).2.2 ≠ 0 then (spNone, (spTake b (spNum b q1).2.1 (-1)).2.2) else
    if (spTake b (spTake b (spNum b q1).2.1 (-1)).2.1 (-1)).2.2 ≠ 0 then (spNone, (spTake b (spTake b (spNum b q1).2.1 (-1)).2.1 (-1)).2.2) else
    if (spHeads b (spTake b (spTake b (spNum b q1).2.1 (-1)).2.1 (-1)).2.1).2.2 ≠ 0 then (spNone, (spHeads b (spTake b (spTake b (spNum b q1).2.1 (-1)).2.1 (-1)).2.1).2.2) else
    if (spHeads b (spTake b (spTake b (spNum b q1).2.1 (-1)).2.1 (-1)).2.1).2.1 < (b.length : Int) then (spNone, 2) else
    ((spZag (spGet 10 1 b 1).1, (spNum b q1).1, (spTake b (spNum b q1).2.1 (-1)).1, (spTake b (spTake b (spNum b q1).2.1 (-1)).2.1 (-1)).1, (spHeads b (spTake b (spTake b (spNum b q1).2.1 (-1)).2.1 (-1)).2.1).1, ()), 0) := by
    unfold spRow; rw [if_neg h0, if_neg (by simpa using h1), if_neg (by simpa using h2), hq1]
  rw [e]
  generalize spNum b q1 = n1
  generalize spTake b n1.2.1 (-1) = n2
  generalize spTake b n2.2.1 (-1) = n3
  generalize spHeads b n3.2.1 = n4
  simp only [cond_eq_ite, bne_iff_ne, decide_eq_true_eq]
  split
  · rfl
  split
  · rfl
  split
  · rfl
  split
  · rfl
  split
  · rfl
  split
  · rfl
  first | done | rfl

/-! ### leat/leatref07.Get -/
noncomputable abbrev iorRGet : Io := ⟨[dL, dI], [], [], [dRow, dI, dI], none⟩
noncomputable def FrRGet (d : iorRGet.In) : Tr iorRGet.Res := .ret (.ret (((spRec d.1.1 d.1.2.1).1, (spRec d.1.1 d.1.2.1).2.1, (spRec d.1.1 d.1.2.1).2.2, ()), ()))
noncomputable abbrev csrRGet : List (Nat × Hc) := [(32, ioHd iorGet32 FrNum), (33, ioHd iorrow Frrow)]
noncomputable def hdrRGet : Hd := hdT csrRGet
noncomputable def lprRGet : Lp := lpT []

noncomputable def bodyrRGet (a0 : List Int) (a1 : Int) : Option iorRGet.Res := bif (spGet 5 15 a0 a1).snd.snd != 0 then some (Out.ret (((0, 0, (false, [], ()), (false, [], ()), [], ()), 0, (spGet 5 15 a0 a1).snd.snd, ()), ())) else bif decide (IntKind.i32.wrap (spZag (spGet 5 15 a0 a1).fst) < 0) then some (Out.ret (((0, 0, (false, [], ()), (false, [], ()), [], ()), 0, 5, ()), ())) else bif decide (16384 < IntKind.i32.wrap (spZag (spGet 5 15 a0 a1).fst)) then some (Out.ret (((0, 0, (false, [], ()), (false, [], ()), [], ()), 0, 4, ()), ())) else bif decide (IntKind.i64.wrap ((↑a0.length : Int) - (spGet 5 15 a0 a1).snd.fst) < IntKind.i64.wrap (IntKind.i32.wrap (spZag (spGet 5 15 a0 a1).fst))) then some (Out.ret (((0, 0, (false, [], ()), (false, [], ()), [], ()), 0, 1, ()), ())) else bif decide (0 ≤ (spGet 5 15 a0 a1).snd.fst) && (decide ((spGet 5 15 a0 a1).snd.fst ≤ IntKind.i64.wrap ((spGet 5 15 a0 a1).snd.fst + IntKind.i64.wrap (IntKind.i32.wrap (spZag (spGet 5 15 a0 a1).fst)))) && decide (IntKind.i64.wrap ((spGet 5 15 a0 a1).snd.fst + IntKind.i64.wrap (IntKind.i32.wrap (spZag (spGet 5 15 a0 a1).fst))) ≤ (↑a0.length : Int))) then bif (spRow (List.drop (spGet 5 15 a0 a1).snd.fst.toNat (List.take (IntKind.i64.wrap ((spGet 5 15 a0 a1).snd.fst + IntKind.i64.wrap (IntKind.i32.wrap (spZag (spGet 5 15 a0 a1).fst)))).toNat a0))).snd != 0 then some (Out.ret (((0, 0, (false, [], ()), (false, [], ()), [], ()), 0, (spRow (List.drop (spGet 5 15 a0 a1).snd.fst.toNat (List.take (IntKind.i64.wrap ((spGet 5 15 a0 a1).snd.fst + IntKind.i64.wrap (IntKind.i32.wrap (spZag (spGet 5 15 a0 a1).fst)))).toNat a0))).snd, ()), ())) else some (Out.ret ((((spRow (List.drop (spGet 5 15 a0 a1).snd.fst.toNat (List.take (IntKind.i64.wrap ((spGet 5 15 a0 a1).snd.fst + IntKind.i64.wrap (IntKind.i32.wrap (spZag (spGet 5 15 a0 a1).fst)))).toNat a0))).fst.fst, (spRow (List.drop (spGet 5 15 a0 a1).snd.fst.toNat (List.take (IntKind.i64.wrap ((spGet 5 15 a0 a1).snd.fst + IntKind.i64.wrap (IntKind.i32.wrap (spZag (spGet 5 15 a0 a1).fst)))).toNat a0))).fst.snd.fst, ((spRow (List.drop (spGet 5 15 a0 a1).snd.fst.toNat (List.take (IntKind.i64.wrap ((spGet 5 15 a0 a1).snd.fst + IntKind.i64.wrap (IntKind.i32.wrap (spZag (spGet 5 15 a0 a1).fst)))).toNat a0))).fst.snd.snd.fst.fst, (spRow (List.drop (spGet 5 15 a0 a1).snd.fst.toNat (List.take (IntKind.i64.wrap ((spGet 5 15 a0 a1).snd.fst + IntKind.i64.wrap (IntKind.i32.wrap (spZag (spGet 5 15 a0 a1).fst)))).toNat a0))).fst.snd.snd.fst.snd.fst, ()), ((spRow (List.drop (spGet 5 15 a0 a1).snd.fst.toNat (List.take (IntKind.i64.wrap ((spGet 5 15 a0 a1).snd.fst + IntKind.i64.wrap (IntKind.i32.wrap (spZag (spGet 5 15 a0 a1).fst)))).toNat a0))).fst.snd.snd.snd.fst.fst, (spRow (List.drop (spGet 5 15 a0 a1).snd.fst.toNat (List.take (IntKind.i64.wrap ((spGet 5 15 a0 a1).snd.fst + IntKind.i64.wrap (IntKind.i32.wrap (spZag (spGet 5 15 a0 a1).fst)))).toNat a0))).fst.snd.snd.snd.fst.snd.fst, ()), (spRow (List.drop (spGet 5 15 a0 a1).snd.fst.toNat (List.take (IntKind.i64.wrap ((spGet 5 15 a0 a1).snd.fst + IntKind.i64.wrap (IntKind.i32.wrap (spZag (spGet 5 15 a0 a1).fst)))).toNat a0))).fst.snd.snd.snd.snd.fst, ()), IntKind.i64.wrap ((spGet 5 15 a0 a1).snd.fst + IntKind.i64.wrap (IntKind.i32.wrap (spZag (spGet 5 15 a0 a1).fst))), 0, ()), ())) else none
theorem runrRGet (a0 : List Int) (a1 : Int) : Io.run tt hdrRGet dr lprRGet iorRGet Go.Proofs.Try.f12 ((a0, a1, ()), ()) = bodyrRGet a0 a1 := by kernel_rfl
theorem okrRGet : HcOk prog 12 (ioHd iorRGet FrRGet) := by
  refine fn_sound (n := 400) hm (cs := csrRGet) (.cons okrNum (.cons okrrow .nil)) (lp := lprRGet) (fn := Go.Proofs.Try.f12) (by kernel_rfl) (by kernel_rfl) (by kernel_rfl) iorRGet (.done (by kernel_rfl)) FrRGet ?_
  rintro ⟨⟨(b : List Int), (p : Int), ⟨⟩⟩, ⟨⟩⟩ out hw ho
  cases ho
  refine (runrRGet b p).trans ?_
  have hb : b.length ≤ maxLen := hw.1.1.1
  rw [maxLen_eq] at hb
  show _ = some (Out.ret (((spRec b p).1, (spRec b p).2.1, (spRec b p).2.2, ()), ()))
  have hr := @spNum_range b p
  unfold bodyrRGet
  by_cases h0 : (spNum b p).2.2 = 0
  rotate_left
  · have h0' : (spGet 5 15 b p).2.2 ≠ 0 := h0
    have e : spRec b p = (spNone, 0, (spGet 5 15 b p).2.2) := by unfold spRec; rw [if_pos h0]; rfl
    rw [e, bif_true (by simpa using h0')]
    first | done | rfl
  have hk := spNum_ok h0
  have h0' : (spGet 5 15 b p).2.2 = 0 := h0
  rw [bif_false (by simpa using h0')]
  generalize hq : (spGet 5 15 b p).2.1 = q
  generalize hn : IntKind.wrap .i32 (spZag (spGet 5 15 b p).1) = n
  have hq : (spNum b p).2.1 = q := hq
  have hn : (spNum b p).1 = n := hn
  have e0 : spRec b p = if n < 0 then (spNone, 0, 5) else if 16384 < n then (spNone, 0, 4) else if (b.length : Int) - q < n then (spNone, 0, 1)
      else if (spRow ((b.drop q.toNat).take n.toNat)).2 ≠ 0 then (spNone, 0, (spRow ((b.drop q.toNat).take n.toNat)).2)
      else ((spRow ((b.drop q.toNat).take n.toNat)).1, q + n, 0) := by unfold spRec; rw [if_neg (by simpa using h0), hq, hn]
  rw [e0]
  rw [hq] at hk
  rw [hn] at hr
  by_cases h1 : n < 0
  · rw [bif_true (by simpa using h1), if_pos h1]
    first | done | rfl
  rw [bif_false (by simpa using h1), if_neg h1]
  by_cases h2 : 16384 < n
  · rw [bif_true (by simpa using h2), if_pos h2]
    first | done | rfl
  rw [bif_false (by simpa using h2), if_neg h2, wrap_i64 (n := (b.length : Int) - q) (by omega) (by omega), wrap_i64 (n := n) (by omega) (by omega)]
  by_cases h3 : (b.length : Int) - q < n
  · rw [bif_true (by simpa using h3), if_pos h3]
    first | done | rfl
  rw [bif_false (by simpa using h3), if_neg h3, wrap_i64 (n := q + n) (by omega) (by omega), bif_true (by simp; omega), List.drop_take, show (q + n).toNat - q.toNat = n.toNat by omega]
  generalize spRow ((b.drop q.toNat).take n.toNat) = r
  simp only [cond_eq_ite, bne_iff_ne, decide_eq_true_eq]
  split
  · rfl
  · rfl

end
end Go.Proofs.Ytnppjkijhcampaa.Sym
