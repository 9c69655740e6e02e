/- leatref07: TwinHeads, Twin, AlikeHeads, Alike. -/
import Derived.Test.YtnppjkijhcampaaCRref

namespace Go.Proofs.Ytnppjkijhcampaa.Sym
open Go
set_option linter.unusedSimpArgs false
set_option linter.unusedVariables false
noncomputable section

abbrev Blob : Type := Bool × List Int × Unit
abbrev Head : Type := List Int × Blob × Unit
abbrev RowD : Type := Int × Int × Blob × Blob × List Head × Unit
/-- No list is longer than Copy copes with. -/
def spSmall (hs : List Head) : Bool := decide (hs.length ≤ 4294967296) && hs.all fun h => decide (h.2.1.2.1.length ≤ 4294967296)
def spSmallR (r : RowD) : Bool := decide (r.2.2.1.2.1.length ≤ 4294967296) && (decide (r.2.2.2.1.2.1.length ≤ 4294967296) && spSmall r.2.2.2.2.1)
def spEqR (a b : RowD) : Bool := decide (a.1 = b.1) && (decide (a.2.1 = b.2.1) && (decide (a.2.2.1 = b.2.2.1) && (decide (a.2.2.2.1 = b.2.2.2.1) && decide (a.2.2.2.2.1 = b.2.2.2.2.1))))
theorem spEqR_iff {a b : RowD} : spEqR a b = true ↔ a = b := by
  obtain ⟨a1, a2, a3, a4, a5, ⟨⟩⟩ := a
  obtain ⟨b1, b2, b3, b4, b5, ⟨⟩⟩ := b
  simp [spEqR]
theorem spSmall_iff {hs : List Head} : spSmall hs = true ↔ hs.length ≤ 4294967296 ∧ ∀ h ∈ hs, h.2.1.2.1.length ≤ 4294967296 := by
  simp [spSmall]

/-! ### leat/leatref07.TwinHeads -/
noncomputable abbrev dHeadsO : Sh := .dat tHeads false true
noncomputable abbrev iorTwinHeads : Io := ⟨[dHeads], [], [], [dHeadsO], none⟩
noncomputable def FrTwinHeads (d : iorTwinHeads.In) : Tr iorTwinHeads.Res := .ite (spSmall d.1.1) (.ret (.ret ((d.1.1, ()), ()))) .no
noncomputable abbrev csrTwinHeads : List (Nat × Hc) := [(38, ioHd iorTwinBlob FrTwinBlob)]
noncomputable def hdrTwinHeads : Hd := hdT csrTwinHeads
noncomputable abbrev lorTwinHeads_4 : Lo := ⟨⟨[.one (.hol (.sl 49 (Ty.str.prod ((Ty.bool.prod ((Ty.sl 5 (Ty.int IntKind.u8)).prod Ty.unit)).prod Ty.unit)))), .any, .any, .one (.onl 49 (Ty.str.prod ((Ty.bool.prod ((Ty.sl 5 (Ty.int IntKind.u8)).prod Ty.unit)).prod Ty.unit)) 7), .one (.hol (.int IntKind.i64)), .any, .any, .any, .any, .any, .any, .any, .any, .any, .any, .any, .any, .any, .any, .any, .any, .any, .any, .any, .any, .any, .any, .any], []⟩, [(.exit 0, ⟨[.any, .any, .any, .one (.onl 49 (Ty.str.prod ((Ty.bool.prod ((Ty.sl 5 (Ty.int IntKind.u8)).prod Ty.unit)).prod Ty.unit)) 7), .any, .any, .any, .any, .any, .any, .any, .any, .any, .any, .any, .any, .any, .any, .any, .any, .any, .any, .any, .any, .any, .any, .any, .any], []⟩)]⟩
-- FrTwinHeads_4 : lorTwinHeads_4.st.den → Tr (DenX lorTwinHeads_4.xs) | ((h1, (h2, (h3, ()))), ())
noncomputable def FrTwinHeads_4 (d : lorTwinHeads_4.st.den) : Tr (DenX lorTwinHeads_4.xs) :=
  .ite (decide (d.1.2.2.1 = (0 : Int)) && decide (d.1.2.1 = ([] : List Head)) && spSmall d.1.1) (.ret (.ret ((), ((d.1.1, ()), ())))) .no
noncomputable def lprTwinHeads : Lp := lpT [(4, loHd lorTwinHeads_4 FrTwinHeads_4)]
noncomputable def steprTwinHeads_4 {R : Type} (h1 : List tHead.den) (h2 : List (Ty.str.prod ((Ty.bool.prod ((Ty.sl 5 (Ty.int IntKind.u8)).prod Ty.unit)).prod Ty.unit)).den) (h3 : Int) (next : List tHead.den → List (Ty.str.prod ((Ty.bool.prod ((Ty.sl 5 (Ty.int IntKind.u8)).prod Ty.unit)).prod Ty.unit)).den → Int → Option R) (out : DenX lorTwinHeads_4.xs → Option R) : Option R := bif decide (h3 < (↑h1.length : Int)) then bif decide (0 ≤ h3) && decide (h3 < (↑h1.length : Int)) then bif decide (0 ≤ h3) && decide (h3 < (↑h1.length : Int)) then bif decide (List.length (h1.getD h3.toNat ([], (false, [], ()), ())).snd.fst.snd.fst ≤ 4294967296) then bif decide (h2.length + [((h1.getD h3.toNat ([], (false, [], ()), ())).fst, ((h1.getD h3.toNat ([], (false, [], ()), ())).snd.fst.fst, (h1.getD h3.toNat ([], (false, [], ()), ())).snd.fst.snd.fst, ()), ())].length ≤ 4294967296) then next (h1) (h2 ++ [((h1.getD h3.toNat ([], (false, [], ()), ())).fst, ((h1.getD h3.toNat ([], (false, [], ()), ())).snd.fst.fst, (h1.getD h3.toNat ([], (false, [], ()), ())).snd.fst.snd.fst, ()), ())]) (IntKind.i64.wrap (h3 + 1)) else none else none else none else none else out (.ret ((), ((h2, ()), ())))
noncomputable def itrTwinHeads_4 (n : Nat) (h1 : List tHead.den) (h2 : List (Ty.str.prod ((Ty.bool.prod ((Ty.sl 5 (Ty.int IntKind.u8)).prod Ty.unit)).prod Ty.unit)).den) (h3 : Int) : Option (DenX lorTwinHeads_4.xs) := lpN tt hdrTwinHeads dr lprTwinHeads 0 Go.Proofs.Try.f39 (topL Go.Proofs.Try.f39 0) n (lorTwinHeads_4.st.mk' ((h1, (h2, (h3, ()))), ())) (decX lorTwinHeads_4.xs)
theorem slrTwinHeads_4 (n : Nat) (h1 : List tHead.den) (h2 : List (Ty.str.prod ((Ty.bool.prod ((Ty.sl 5 (Ty.int IntKind.u8)).prod Ty.unit)).prod Ty.unit)).den) (h3 : Int) : itrTwinHeads_4 (n + 1) h1 h2 h3 = steprTwinHeads_4 h1 h2 h3 (itrTwinHeads_4 n) some := by kernel_rfl
theorem looprTwinHeads (b : List Head) (hb : spSmall b = true) (hm : b.length ≤ maxLen) : ∀ (k : Nat) (i : Nat), i ≤ b.length → b.length < i + k →
    itrTwinHeads_4 k b (b.take i) i = some (.ret ((), ((b, ()), ()))) := by
  have hs := spSmall_iff.1 hb
  intro k
  induction k with
  | zero => intro i h1 h2; omega
  | succ k ih =>
    intro i h1 h2
    rw [slrTwinHeads_4]
    unfold steprTwinHeads_4
    by_cases hi : i < b.length
    · have e : (b.getD (i : Int).toNat ([], (false, [], ()), ()) : Head) = b[i] := getD_lt hi
      have h4 := hs.2 b[i] (List.getElem_mem hi)
      have ht : b.take i ++ [b[i]] = b.take (i + 1) := by rw [List.take_add_one, List.getElem?_eq_getElem hi]; rfl
      have hl : (b.take i).length = i := by rw [List.length_take]; omega
      rw [wrap_succ hi hm]
      rw [← e] at ht h4
      generalize (b.getD (i : Int).toNat ([], (false, [], ()), ()) : Head) = x at *
      obtain ⟨x1, ⟨x2, x3, ⟨⟩⟩, ⟨⟩⟩ := x
      have h5 : i + 1 ≤ 4294967296 := by omega
      have h4 : x3.length ≤ 4294967296 := h4
      rw [bif_true (by simpa using hi), bif_true (by simp [hi]), bif_true (by simp [hi]), bif_true (by simpa using h4), bif_true (by simp [hl, h5]), ← ih (i + 1) hi (by omega), ← ht]
    · have : b.take i = b := List.take_of_length_le (by omega)
      rw [this]
      simp [hi]
noncomputable def bodyrTwinHeads (a0 : List tHead.den) : Option iorTwinHeads.Res := (FrTwinHeads_4 ((a0, ([], (0, ()))), ())).run fun y => match y with | .ret ((), ((x8, ()), ())) => (some (Out.ret ((x8, ()), ())))
theorem runrTwinHeads (a0 : List tHead.den) : Io.run tt hdrTwinHeads dr lprTwinHeads iorTwinHeads Go.Proofs.Try.f39 ((a0, ()), ()) = bodyrTwinHeads a0 := by kernel_rfl
theorem okrTwinHeads : HcOk prog 39 (ioHd iorTwinHeads FrTwinHeads) := by
  refine fn_sound (n := 400) hm (cs := csrTwinHeads) (.cons okrTwinBlob .nil) (lp := lprTwinHeads) (fn := Go.Proofs.Try.f39) (by kernel_rfl) (by kernel_rfl) (by kernel_rfl) iorTwinHeads
    (.step (h0 := loHd lorTwinHeads_4 FrTwinHeads_4) (by kernel_rfl) (loop_sound (n := 400) hm (cs := csrTwinHeads) (.cons okrTwinBlob .nil) (lp := lprTwinHeads) (fn := Go.Proofs.Try.f39) (.done (by kernel_rfl)) lorTwinHeads_4 FrTwinHeads_4 ?_) (.done (by kernel_rfl))) FrTwinHeads ?_
  · rintro ⟨⟨(b : List Head), (o : List Head), (i : Int), ⟨⟩⟩, ⟨⟩⟩ y hw hy
    obtain ⟨hg, hy⟩ := Tr.guard hy
    simp only [Bool.and_eq_true, decide_eq_true_eq] at hg
    obtain ⟨⟨hi, ho⟩, hl⟩ := hg
    have hi : i = 0 := hi
    have ho : o = [] := ho
    subst hi ho
    refine ⟨b.length + 1, (looprTwinHeads b hl hw.1.1.1 _ 0 (by omega) (by omega)).trans ?_⟩
    rw [← hy]; rfl
  · rintro ⟨⟨(b : List Head), ⟨⟩⟩, ⟨⟩⟩ out hw ho
    obtain ⟨hg, ho⟩ := Tr.guard ho
    cases ho
    refine (runrTwinHeads b).trans ?_
    have hg : spSmall b = true := hg
    unfold bodyrTwinHeads FrTwinHeads_4
    simp [Tr.run_ite, Tr.run_ret, hg]

/-! ### leat/leatref07.AlikeHeads -/
noncomputable abbrev iorAlikeHeads : Io := ⟨[dHeads, dHeads], [], [], [dB], none⟩
noncomputable def FrAlikeHeads (d : iorAlikeHeads.In) : Tr iorAlikeHeads.Res := .ret (.ret ((decide (d.1.1 = d.1.2.1), ()), ()))
noncomputable abbrev csrAlikeHeads : List (Nat × Hc) := [(34, ioHd iorAlikeBlob FrAlikeBlob)]
noncomputable def hdrAlikeHeads : Hd := hdT csrAlikeHeads
noncomputable abbrev lorAlikeHeads_5 : Lo := ⟨⟨[.one (.hol (.sl 49 (Ty.str.prod ((Ty.bool.prod ((Ty.sl 5 (Ty.int IntKind.u8)).prod Ty.unit)).prod Ty.unit)))), .one (.hol (.sl 49 (Ty.str.prod ((Ty.bool.prod ((Ty.sl 5 (Ty.int IntKind.u8)).prod Ty.unit)).prod Ty.unit)))), .any, .any, .any, .one (.hol (.int IntKind.i64)), .any, .any, .any, .any, .any, .any, .any, .any, .any, .any, .any, .any, .any, .any, .any, .any, .any, .any, .any, .any, .any, .any, .any, .any, .any, .any, .any, .any, .any, .any, .any, .any, .any, .any, .any, .any], []⟩, [(.ret, ⟨[.any, .any, .any, .any, .one (.hol .bool), .any, .any, .any, .any, .any, .any, .any, .any, .any, .any, .any, .any, .any, .any, .any, .any, .any, .any, .any, .any, .any, .any, .any, .any, .any, .any, .any, .any, .any, .any, .any, .any, .any, .any, .any, .any, .any], []⟩), (.exit 0, ⟨[.any, .any, .any, .any, .any, .any, .any, .any, .any, .any, .any, .any, .any, .any, .any, .any, .any, .any, .any, .any, .any, .any, .any, .any, .any, .any, .any, .any, .any, .any, .any, .any, .any, .any, .any, .any, .any, .any, .any, .any, .any, .any], []⟩)]⟩
-- FrAlikeHeads_5 : lorAlikeHeads_5.st.den → Tr (DenX lorAlikeHeads_5.xs) | ((h2, (h3, (h4, ()))), ())
noncomputable def FrAlikeHeads_5 (d : lorAlikeHeads_5.st.den) : Tr (DenX lorAlikeHeads_5.xs) :=
  .ite (decide (d.1.2.2.1 = (0 : Int)) && decide (d.1.1.length = d.1.2.1.length)) (.ite (decide (d.1.1 = d.1.2.1)) (.ret (.pan (.ret ((), ((), ()))))) (.ret (.ret ((), ((false, ()), ()))))) .no
noncomputable def lprAlikeHeads : Lp := lpT [(5, loHd lorAlikeHeads_5 FrAlikeHeads_5)]
noncomputable def steprAlikeHeads_5 {R : Type} (h2 : List tHead.den) (h3 : List tHead.den) (h4 : Int) (next : List tHead.den → List tHead.den → Int → Option R) (out : DenX lorAlikeHeads_5.xs → Option R) : Option R := bif decide (h4 < (↑h2.length : Int)) then bif decide (0 ≤ h4) && decide (h4 < (↑h2.length : Int)) then bif decide (0 ≤ h4) && decide (h4 < (↑h3.length : Int)) then bif !decide ((h2.getD h4.toNat ([], (false, [], ()), ())).fst = (h3.getD h4.toNat ([], (false, [], ()), ())).fst) then out (.ret ((), ((false, ()), ()))) else bif decide (0 ≤ h4) && decide (h4 < (↑h2.length : Int)) then bif decide (0 ≤ h4) && decide (h4 < (↑h3.length : Int)) then bif !decide (((h2.getD h4.toNat ([], (false, [], ()), ())).snd.fst.fst, (h2.getD h4.toNat ([], (false, [], ()), ())).snd.fst.snd.fst, ()) = ((h3.getD h4.toNat ([], (false, [], ()), ())).snd.fst.fst, (h3.getD h4.toNat ([], (false, [], ()), ())).snd.fst.snd.fst, ())) then out (.ret ((), ((false, ()), ()))) else next (h2) (h3) (IntKind.i64.wrap (h4 + 1)) else none else none else none else none else out (.pan (.ret ((), ((), ()))))
noncomputable def itrAlikeHeads_5 (n : Nat) (h2 : List tHead.den) (h3 : List tHead.den) (h4 : Int) : Option (DenX lorAlikeHeads_5.xs) := lpN tt hdrAlikeHeads dr lprAlikeHeads 0 Go.Proofs.Try.f35 (topL Go.Proofs.Try.f35 0) n (lorAlikeHeads_5.st.mk' ((h2, (h3, (h4, ()))), ())) (decX lorAlikeHeads_5.xs)
theorem slrAlikeHeads_5 (n : Nat) (h2 : List tHead.den) (h3 : List tHead.den) (h4 : Int) : itrAlikeHeads_5 (n + 1) h2 h3 h4 = steprAlikeHeads_5 h2 h3 h4 (itrAlikeHeads_5 n) some := by kernel_rfl
theorem looprAlikeHeads (xs ys : List Head) (hl : xs.length = ys.length) (hb : xs.length ≤ maxLen) : ∀ (k i : Nat), i ≤ xs.length → xs.length < i + k →
    itrAlikeHeads_5 k xs ys (i : Int) = if xs.drop i = ys.drop i then some (.pan (.ret ((), ((), ())))) else some (.ret ((), ((false, ()), ()))) := by
  intro k
  induction k with
  | zero => intro i h h'; omega
  | succ k ih =>
    intro i hi h
    rw [slrAlikeHeads_5]
    unfold steprAlikeHeads_5
    by_cases h1 : i < xs.length
    · have h2 : i < ys.length := by omega
      rw [wrap_succ h1 hb, ih (i + 1) h1 (by omega)]
      have e : (xs.drop i = ys.drop i) ↔ (xs[i] = ys[i] ∧ xs.drop (i + 1) = ys.drop (i + 1)) := by rw [List.drop_eq_getElem_cons h1, List.drop_eq_getElem_cons h2, List.cons.injEq]
      have e1 : (xs.getD (i : Int).toNat ([], (false, [], ()), ()) : Head) = xs[i] := getD_lt h1
      have e2 : (ys.getD (i : Int).toNat ([], (false, [], ()), ()) : Head) = ys[i] := getD_lt h2
      rw [← e1, ← e2] at e
      generalize (xs.getD (i : Int).toNat ([], (false, [], ()), ()) : Head) = x at *
      generalize (ys.getD (i : Int).toNat ([], (false, [], ()), ()) : Head) = y at *
      obtain ⟨x1, ⟨x2, x3, ⟨⟩⟩, ⟨⟩⟩ := x
      obtain ⟨y1, ⟨y2, y3, ⟨⟩⟩, ⟨⟩⟩ := y
      by_cases he : x1 = y1 <;> by_cases he2 : x2 = y2 <;> by_cases he3 : x3 = y3 <;> simp [h1, h2, he, he2, he3, e, cond_eq_ite]
    · rw [List.drop_of_length_le (by omega), List.drop_of_length_le (by omega)]
      simp [h1]
noncomputable def bodyrAlikeHeads (a0 : List tHead.den) (a1 : List tHead.den) : Option iorAlikeHeads.Res := bif (↑a0.length : Int) != (↑a1.length : Int) then some (Out.ret ((false, ()), ())) else (FrAlikeHeads_5 ((a0, (a1, (0, ()))), ())).run fun y => match y with | .ret ((), ((x10, ()), ())) => (some (Out.ret ((x10, ()), ()))) | .pan (.ret ((), ((), ()))) => (some (Out.ret ((true, ()), ())))
theorem runrAlikeHeads (a0 : List tHead.den) (a1 : List tHead.den) : Io.run tt hdrAlikeHeads dr lprAlikeHeads iorAlikeHeads Go.Proofs.Try.f35 ((a0, a1, ()), ()) = bodyrAlikeHeads a0 a1 := by kernel_rfl
theorem okrAlikeHeads : HcOk prog 35 (ioHd iorAlikeHeads FrAlikeHeads) := by
  refine fn_sound (n := 400) hm (cs := csrAlikeHeads) (.cons okrAlikeBlob .nil) (lp := lprAlikeHeads) (fn := Go.Proofs.Try.f35) (by kernel_rfl) (by kernel_rfl) (by kernel_rfl) iorAlikeHeads
    (.step (h0 := loHd lorAlikeHeads_5 FrAlikeHeads_5) (by kernel_rfl) (loop_sound (n := 400) hm (cs := csrAlikeHeads) (.cons okrAlikeBlob .nil) (lp := lprAlikeHeads) (fn := Go.Proofs.Try.f35) (.done (by kernel_rfl)) lorAlikeHeads_5 FrAlikeHeads_5 ?_) (.done (by kernel_rfl))) FrAlikeHeads ?_
  · rintro ⟨⟨(xs : List Head), (ys : List Head), (i : Int), ⟨⟩⟩, ⟨⟩⟩ y hw hy
    obtain ⟨hg, hy⟩ := Tr.guard hy
    simp only [Bool.and_eq_true, decide_eq_true_eq] at hg
    obtain ⟨hi, hl⟩ := hg
    have hi : i = 0 := hi
    have hl : xs.length = ys.length := hl
    subst hi
    refine ⟨xs.length + 1, (looprAlikeHeads xs ys hl hw.1.1.1 _ 0 (by omega) (by omega)).trans ?_⟩
    rw [← hy]
    simp only [Tr.val_ite, decide_eq_true_eq, Tr.val_ret, List.drop_zero]
  · rintro ⟨⟨(xs : List Head), (ys : List Head), ⟨⟩⟩, ⟨⟩⟩ out hw ho
    cases ho
    refine (runrAlikeHeads xs ys).trans ?_
    unfold bodyrAlikeHeads FrAlikeHeads_5
    show _ = some (Out.ret ((decide (xs = ys), ()), ()))
    by_cases hl : xs.length = ys.length
    · by_cases he : xs = ys
      · subst he; simp [Tr.run]
      · simp [Tr.run, hl, he]
    · have : xs ≠ ys := fun e => hl (by rw [e])
      have h2 : (xs.length : Int) ≠ ys.length := by omega
      simp [this, h2, cond_eq_ite]

/-! ### leat/leatref07.Twin -/
noncomputable abbrev iorTwin : Io := ⟨[dRow], [], [], [dRow], none⟩
noncomputable def FrTwin (d : iorTwin.In) : Tr iorTwin.Res := .ite (spSmallR d.1.1) (.ret (.ret ((d.1.1, ()), ()))) .no
noncomputable abbrev csrTwin : List (Nat × Hc) := [(38, ioHd iorTwinBlob FrTwinBlob), (39, ioHd iorTwinHeads FrTwinHeads)]
noncomputable def hdrTwin : Hd := hdT csrTwin
noncomputable def lprTwin : Lp := lpT []

noncomputable def bodyrTwin (a0 : Int) (a1 : Int) (a2 : Bool) (a3 : List Int) (a4 : Bool) (a5 : List Int) (a6 : List tHead.den) : Option iorTwin.Res := bif decide (a3.length ≤ 4294967296) then bif decide (a5.length ≤ 4294967296) then bif spSmall a6 then some (Out.ret (((a0, a1, (a2, a3, ()), (a4, a5, ()), a6, ()), ()), ())) else none else none else none
theorem runrTwin (a0 : Int) (a1 : Int) (a2 : Bool) (a3 : List Int) (a4 : Bool) (a5 : List Int) (a6 : List tHead.den) : Io.run tt hdrTwin dr lprTwin iorTwin Go.Proofs.Try.f16 (((a0, a1, (a2, a3, ()), (a4, a5, ()), a6, ()), ()), ()) = bodyrTwin a0 a1 a2 a3 a4 a5 a6 := by kernel_rfl
theorem okrTwin : HcOk prog 16 (ioHd iorTwin FrTwin) := by
  refine fn_sound (n := 400) hm (cs := csrTwin) (.cons okrTwinBlob (.cons okrTwinHeads .nil)) (lp := lprTwin) (fn := Go.Proofs.Try.f16) (by kernel_rfl) (by kernel_rfl) (by kernel_rfl) iorTwin (.done (by kernel_rfl)) FrTwin ?_
  rintro ⟨⟨⟨(a0 : Int), (a1 : Int), ⟨(a2 : Bool), (a3 : List Int), ⟨⟩⟩, ⟨(a4 : Bool), (a5 : List Int), ⟨⟩⟩, (a6 : List Head), ⟨⟩⟩, ⟨⟩⟩, ⟨⟩⟩ out hw ho
  obtain ⟨hg, ho⟩ := Tr.guard ho
  cases ho
  refine (runrTwin a0 a1 a2 a3 a4 a5 a6).trans ?_
  have hg : (decide (a3.length ≤ 4294967296) && (decide (a5.length ≤ 4294967296) && spSmall a6)) = true := hg
  simp only [Bool.and_eq_true] at hg
  unfold bodyrTwin
  rw [bif_true hg.1, bif_true hg.2.1, bif_true hg.2.2]

/-! ### leat/leatref07.Alike -/
noncomputable abbrev iorAlike : Io := ⟨[dRow, dRow], [], [], [dB], none⟩
noncomputable def FrAlike (d : iorAlike.In) : Tr iorAlike.Res := .ret (.ret ((spEqR d.1.1 d.1.2.1, ()), ()))
noncomputable abbrev csrAlike : List (Nat × Hc) := [(34, ioHd iorAlikeBlob FrAlikeBlob), (35, ioHd iorAlikeHeads FrAlikeHeads)]
noncomputable def hdrAlike : Hd := hdT csrAlike
noncomputable def lprAlike : Lp := lpT []

noncomputable def bodyrAlike (a0 : Int) (a1 : Int) (a2 : Bool) (a3 : List Int) (a4 : Bool) (a5 : List Int) (a6 : List tHead.den) (a7 : Int) (a8 : Int) (a9 : Bool) (a10 : List Int) (a11 : Bool) (a12 : List Int) (a13 : List tHead.den) : Option iorAlike.Res := bif a0 != a7 then some (Out.ret ((false, ()), ())) else bif a1 != a8 then some (Out.ret ((false, ()), ())) else bif decide ((a2, a3, ()) = (a9, a10, ())) then bif decide ((a4, a5, ()) = (a11, a12, ())) then some (Out.ret ((decide (a6 = a13), ()), ())) else some (Out.ret ((false, ()), ())) else some (Out.ret ((false, ()), ()))
theorem runrAlike (a0 : Int) (a1 : Int) (a2 : Bool) (a3 : List Int) (a4 : Bool) (a5 : List Int) (a6 : List tHead.den) (a7 : Int) (a8 : Int) (a9 : Bool) (a10 : List Int) (a11 : Bool) (a12 : List Int) (a13 : List tHead.den) : Io.run tt hdrAlike dr lprAlike iorAlike Go.Proofs.Try.f13 (((a0, a1, (a2, a3, ()), (a4, a5, ()), a6, ()), (a7, a8, (a9, a10, ()), (a11, a12, ()), a13, ()), ()), ()) = bodyrAlike a0 a1 a2 a3 a4 a5 a6 a7 a8 a9 a10 a11 a12 a13 := by kernel_rfl
theorem okrAlike : HcOk prog 13 (ioHd iorAlike FrAlike) := by
  refine fn_sound (n := 400) hm (cs := csrAlike) (.cons okrAlikeBlob (.cons okrAlikeHeads .nil)) (lp := lprAlike) (fn := Go.Proofs.Try.f13) (by kernel_rfl) (by kernel_rfl) (by kernel_rfl) iorAlike (.done (by kernel_rfl)) FrAlike ?_
  rintro ⟨⟨⟨(a0 : Int), (a1 : Int), ⟨(a2 : Bool), (a3 : List Int), ⟨⟩⟩, ⟨(a4 : Bool), (a5 : List Int), ⟨⟩⟩, (a6 : List Head), ⟨⟩⟩, ⟨(b0 : Int), (b1 : Int), ⟨(b2 : Bool), (b3 : List Int), ⟨⟩⟩, ⟨(b4 : Bool), (b5 : List Int), ⟨⟩⟩, (b6 : List Head), ⟨⟩⟩, ⟨⟩⟩, ⟨⟩⟩ out hw ho
  cases ho
  refine (runrAlike a0 a1 a2 a3 a4 a5 a6 b0 b1 b2 b3 b4 b5 b6).trans ?_
  unfold bodyrAlike
  show _ = some (Out.ret ((spEqR (a0, a1, (a2, a3, ()), (a4, a5, ()), a6, ()) (b0, b1, (b2, b3, ()), (b4, b5, ()), b6, ()), ()), ()))
  unfold spEqR
  by_cases h0 : a0 = b0
  · by_cases h1 : a1 = b1
    · rw [bif_false (by simpa using h0), bif_false (by simpa using h1)]
      simp only [h0, h1, decide_true, Bool.true_and]
      cases hx : decide ((a2, a3, ()) = (b2, b3, ())) <;> cases hy : decide ((a4, a5, ()) = (b4, b5, ())) <;> rfl
    · rw [bif_false (by simpa using h0), bif_true (by simpa using h1)]
      simp [h1]
  · rw [bif_true (by simpa using h0)]
    simp [h0]

end
end Go.Proofs.Ytnppjkijhcampaa.Sym
