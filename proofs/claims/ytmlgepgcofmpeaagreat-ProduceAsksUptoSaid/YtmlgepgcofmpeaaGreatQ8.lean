/- leatref11: requests and answers as trees. -/
import Derived.Test.YtmlgepgcofmpeaaGreatQ7

namespace Go.Proofs.YtmlgepgcofmpeaaGreat.Sym
open Go
set_option linter.unusedSimpArgs false
set_option linter.unusedVariables false
noncomputable section

abbrev ndNum (k n : Int) : Nd := .mk (k, (n, (false, (([] : List Int), ())))) []
abbrev ndText (s : List Int) : Nd := .mk (5, (0, (false, (s, ())))) []
abbrev ndNText (x : tNameT.den) : Nd := .mk (6, (0, (x.1, (x.2.1, ())))) []
abbrev ndNBytes (x : tBlobT.den) : Nd := .mk (8, (0, (x.1, (x.2.1, ())))) []
abbrev ndRow (l : List Nd) : Nd := .mk (10, (0, (false, (([] : List Int), ())))) l
abbrev ndRows (l : List Nd) : Nd := .mk (9, (0, (false, (([] : List Int), ())))) l
theorem i64_i32 {n : Int} (h : inR .i32 n) : IntKind.i64.wrap n = n := by
  simp only [inR, IntKind.min, IntKind.max, IntKind.signed, IntKind.bits] at h
  simp at h
  exact wrap_i64 (by omega) (by omega)
theorem i64_i16 {n : Int} (h : inR .i16 n) : IntKind.i64.wrap n = n := by
  simp only [inR, IntKind.min, IntKind.max, IntKind.signed, IntKind.bits] at h
  simp at h
  exact wrap_i64 (by omega) (by omega)
def spFPart (p : tPart.den) : Nd := ndRow [ndNum 3 p.1, ndNBytes p.2.1]
theorem spFPart_eq {p : tPart.den} (h : tPart.wf p) : ndRow [ndNum 3 (IntKind.i64.wrap p.1), ndNBytes p.2.1] = spFPart p := by
  rw [i64_i32 h.1]; rfl
def spFTopic (t : tTopic.den) : Nd := ndRow [ndText t.1, ndRows (t.2.1.map spFPart)]
@[irreducible] def spFullReq (m : tReq.den) : Nd := ndRow [ndNText m.1, ndNum 2 m.2.1, ndNum 3 m.2.2.1, ndRows (m.2.2.2.1.map spFTopic)]
theorem spWt_data (n : Nd) : n.lab.2.2.2.1.length ≤ spWt n := by rw [spWt_eq]; omega
theorem spWts_kids (n : Nd) : spWts n.kids ≤ spWt n := by rw [spWt_eq]; omega
theorem spAt_wt (n : Nd) (i : Int) : spWt (spAt n i) ≤ spWt n := by
  unfold spAt
  split
  · rename_i h
    have hlt : i.toNat < n.kids.length := by omega
    rw [getD_lt hlt]
    have := spWt_mem (List.getElem_mem hlt)
    have := spWts_kids n
    omega
  · have := spWt_pos n
    have h0 := spWts_nil
    rw [spWt_eq (Tre.mk _ _)]
    show 1 + 0 + spWts [] ≤ spWt n
    omega
def spPartOf (x : Nd) : tPart.den := (IntKind.i32.wrap (spAt x 0).lab.2.1, ((spAt x 1).lab.2.2, ()))
def spTopicOf (x : Nd) : tTopic.den := ((spAt x 0).lab.2.2.2.1, ((spAt x 1).kids.map spPartOf, ()))
@[irreducible] def spReqOf (n : Nd) : tReq.den := (((spAt n 0).lab.2.2.1, ((spAt n 0).lab.2.2.2.1, ())), (IntKind.i16.wrap (spAt n 1).lab.2.1, (IntKind.i32.wrap (spAt n 2).lab.2.1, ((spAt n 3).kids.map spTopicOf, ()))))
def spFDone (p : tDone.den) : Nd := ndRow [ndNum 3 p.1, ndNum 2 p.2.1, ndNum 4 p.2.2.1, ndNum 4 p.2.2.2.1, ndNum 4 p.2.2.2.2.1]
theorem spFDone_eq {p : tDone.den} (h : tDone.wf p) : ndRow [ndNum 3 (IntKind.i64.wrap p.1), ndNum 2 (IntKind.i64.wrap p.2.1), ndNum 4 p.2.2.1, ndNum 4 p.2.2.2.1, ndNum 4 p.2.2.2.2.1] = spFDone p := by
  rw [i64_i32 h.1, i64_i16 h.2.1]; rfl
def spFGone (t : tGone.den) : Nd := ndRow [ndText t.1, ndRows (t.2.1.map spFDone)]
@[irreducible] def spFullRep (m : tRep.den) : Nd := ndRow [ndRows (m.1.map spFGone), ndNum 3 m.2.1]
def spDoneOf (x : Nd) : tDone.den := (IntKind.i32.wrap (spAt x 0).lab.2.1, (IntKind.i16.wrap (spAt x 1).lab.2.1, ((spAt x 2).lab.2.1, ((spAt x 3).lab.2.1, ((spAt x 4).lab.2.1, ())))))
def spGoneOf (x : Nd) : tGone.den := ((spAt x 0).lab.2.2.2.1, ((spAt x 1).kids.map spDoneOf, ()))
@[irreducible] def spRepOf (n : Nd) : tRep.den := ((spAt n 0).kids.map spGoneOf, (IntKind.i32.wrap (spAt n 1).lab.2.1, ()))
/-! ### leat/leatref11.FullReq -/
noncomputable abbrev iozFullReq : Io := ⟨[.dat tReq true false], [], [], [dNode], none⟩
noncomputable def spLensReq (l : List tTopic.den) : Bool := decide (l.length ≤ 4294967296) && l.all fun t => decide (t.2.1.length ≤ 4294967296)
noncomputable def FzFullReq (d : iozFullReq.In) : Tr iozFullReq.Res := .ite (spLensReq d.1.1.2.2.2.1) (.ret (.ret ((spFullReq d.1.1, ()), ()))) .no
noncomputable abbrev cszFullReq : List (Nat × Hc) := [(92, ioHd iotNum FtNum), (93, ioHd iotNBytes FtNBytes), (91, ioHd iotRow FtRow), (94, ioHd iotText FtText), (95, ioHd iotRows FtRows), (96, ioHd iotNText FtNText)]
noncomputable def hdzFullReq : Hd := hdT cszFullReq
noncomputable abbrev lozFullReq_8 : Lo := ⟨⟨[.any, .one (.ptr 1 0), .one (.ptr 2 0), .one (.onl 68 tNode 7), .one (.hol (.int IntKind.i64)), .one (.onl 68 tNode 11), .one (.hol (.int IntKind.i64)), .any, .any, .any, .any, .any, .any, .any, .any, .any, .any, .any, .any, .any, .any, .any, .any, .any, .any, .any, .any, .any, .any, .any, .any, .any, .any, .any, .any, .any, .any, .any, .any, .any, .any, .any, .any, .any, .any, .any, .any, .any, .any, .any, .any, .any, .any, .any, .any, .any, .any, .any, .any, .any, .any, .any, .any, .any, .any, .any, .any, .any, .any, .any, .any, .any, .any, .any, .any, .any, .any, .any], [none, some [.hol .bool, .hol .str, .hol (.int IntKind.i16), .hol (.int IntKind.i32), .hol (.sl 86 tTopic)], some [.hol (.int IntKind.i64), .hol (.int IntKind.i64), .hol .bool, .onl 5 (Ty.int IntKind.u8) 1032, .onl 68 tNode 1034]]⟩, [(.exit 2, ⟨[.any, .one (.ptr 1 0), .one (.ptr 2 0), .one (.onl 68 tNode 7), .one (.hol (.int IntKind.i64)), .one (.onl 68 tNode 11), .any, .any, .any, .any, .any, .any, .any, .any, .any, .any, .any, .any, .any, .any, .any, .any, .any, .any, .any, .any, .any, .any, .any, .any, .any, .any, .any, .any, .any, .any, .any, .any, .any, .any, .any, .any, .any, .any, .any, .any, .any, .any, .any, .any, .any, .any, .any, .any, .any, .any, .any, .any, .any, .any, .any, .any, .any, .any, .any, .any, .any, .any, .any, .any, .any, .any, .any, .any, .any, .any, .any, .any], [none, some [.hol .bool, .hol .str, .hol (.int IntKind.i16), .hol (.int IntKind.i32), .hol (.sl 86 tTopic)], some [.hol (.int IntKind.i64), .hol (.int IntKind.i64), .hol .bool, .onl 5 (Ty.int IntKind.u8) 1032, .onl 68 tNode 1034]]⟩)]⟩
-- FzFullReq_8 : lozFullReq_8.st.den → Tr (DenX lozFullReq_8.xs) | ((h17, (h18, (h19, (h20, ())))), ((h21, (h22, (h23, (h24, (h25, ()))))), ((h26, (h27, (h28, (h29, (h30, ()))))), ())))
noncomputable abbrev lozFullReq_4 : Lo := ⟨⟨[.any, .one (.ptr 1 0), .one (.ptr 2 0), .one (.onl 68 tNode 7), .one (.hol (.int IntKind.i64)), .any, .any, .any, .any, .any, .any, .any, .any, .any, .any, .any, .any, .any, .any, .any, .any, .any, .any, .any, .any, .any, .any, .any, .any, .any, .any, .any, .any, .any, .any, .any, .any, .any, .any, .any, .any, .any, .any, .any, .any, .any, .any, .any, .any, .any, .any, .any, .any, .any, .any, .any, .any, .any, .any, .any, .any, .any, .any, .any, .any, .any, .any, .any, .any, .any, .any, .any, .any, .any, .any, .any, .any, .any], [none, some [.hol .bool, .hol .str, .hol (.int IntKind.i16), .hol (.int IntKind.i32), .hol (.sl 86 tTopic)], some [.hol (.int IntKind.i64), .hol (.int IntKind.i64), .hol .bool, .onl 5 (Ty.int IntKind.u8) 1032, .onl 68 tNode 1034]]⟩, [(.exit 0, ⟨[.any, .one (.ptr 1 0), .one (.ptr 2 0), .one (.onl 68 tNode 7), .any, .any, .any, .any, .any, .any, .any, .any, .any, .any, .any, .any, .any, .any, .any, .any, .any, .any, .any, .any, .any, .any, .any, .any, .any, .any, .any, .any, .any, .any, .any, .any, .any, .any, .any, .any, .any, .any, .any, .any, .any, .any, .any, .any, .any, .any, .any, .any, .any, .any, .any, .any, .any, .any, .any, .any, .any, .any, .any, .any, .any, .any, .any, .any, .any, .any, .any, .any, .any, .any, .any, .any, .any, .any], [none, some [.hol .bool, .hol .str, .hol (.int IntKind.i16), .hol (.int IntKind.i32), .hol (.sl 86 tTopic)], some [.hol (.int IntKind.i64), .hol (.int IntKind.i64), .hol .bool, .onl 5 (Ty.int IntKind.u8) 1032, .onl 68 tNode 1034]]⟩)]⟩
-- FzFullReq_4 : lozFullReq_4.st.den → Tr (DenX lozFullReq_4.xs) | ((h5, (h6, ())), ((h7, (h8, (h9, (h10, (h11, ()))))), ((h12, (h13, (h14, (h15, (h16, ()))))), ())))
noncomputable def FzFullReq_8 (d : lozFullReq_8.st.den) : Tr (DenX lozFullReq_8.xs) :=
  .ite ((decide ((0 : Int) ≤ d.1.2.1) && decide (d.1.2.1 < (d.2.1.2.2.2.2.1.length : Int))) && ((decide (d.1.2.2.1.length = 0) && decide (d.1.2.2.2.1 = 0)) && decide ((d.2.1.2.2.2.2.1.getD d.1.2.1.toNat tTopic.zero).2.1.length ≤ 4294967296)))
    (.ret (.ret ((), ((d.1.1, (d.1.2.1, ((d.2.1.2.2.2.2.1.getD d.1.2.1.toNat tTopic.zero).2.1.map spFPart, ()))), (d.2.1, (d.2.2.1, ())))))) .no
noncomputable def FzFullReq_4 (d : lozFullReq_4.st.den) : Tr (DenX lozFullReq_4.xs) :=
  .ite ((decide (d.1.1.length = 0) && decide (d.1.2.1 = 0)) && spLensReq d.2.1.2.2.2.2.1)
    (.ret (.ret ((), ((d.2.1.2.2.2.2.1.map spFTopic, ()), (d.2.1, (d.2.2.1, ())))))) .no
noncomputable def lpzFullReq : Lp := lpT [(4, loHd lozFullReq_4 FzFullReq_4), (8, loHd lozFullReq_8 FzFullReq_8)]
noncomputable def stepzFullReq_8 {R : Type} (h17 : List tNode.den) (h18 : Int) (h19 : List tNode.den) (h20 : Int) (h21 : Bool) (h22 : List Int) (h23 : Int) (h24 : Int) (h25 : List tTopic.den) (h26 : Int) (h27 : Int) (h28 : Bool) (h29 : List Int) (h30 : List tNode.den) (next : List tNode.den → Int → List tNode.den → Int → Bool → List Int → Int → Int → List tTopic.den → Int → Int → Bool → List Int → List tNode.den → Option R) (out : DenX lozFullReq_8.xs → Option R) : Option R := bif decide (0 ≤ h18) && decide (h18 < (↑h25.length : Int)) then bif decide (h20 < (↑(List.length (h25.getD h18.toNat ([], [], ())).snd.fst) : Int)) then bif decide (0 ≤ h18) && decide (h18 < (↑h25.length : Int)) then bif decide (0 ≤ h20) && decide (h20 < (↑(List.length (h25.getD h18.toNat ([], [], ())).snd.fst) : Int)) then bif decide (h19.length + 1 ≤ 4294967296) then next (h17) (h18) (h19 ++ [Tre.mk (10, 0, false, [], ()) [Tre.mk (3, IntKind.i64.wrap (List.getD (h25.getD h18.toNat ([], [], ())).snd.fst h20.toNat (0, (false, [], ()), ())).fst, false, [], ()) [], Tre.mk (8, 0, (List.getD (h25.getD h18.toNat ([], [], ())).snd.fst h20.toNat (0, (false, [], ()), ())).snd.fst) []]]) (IntKind.i64.wrap (h20 + 1)) (h21) (h22) (h23) (h24) (h25) (h26) (h27) (h28) (h29) (h30) else none else none else none else out (.ret ((), ((h17, (h18, (h19, ()))), ((h21, (h22, (h23, (h24, (h25, ()))))), ((h26, (h27, (h28, (h29, (h30, ()))))), ()))))) else none
noncomputable def itzFullReq_8 (n : Nat) (h17 : List tNode.den) (h18 : Int) (h19 : List tNode.den) (h20 : Int) (h21 : Bool) (h22 : List Int) (h23 : Int) (h24 : Int) (h25 : List tTopic.den) (h26 : Int) (h27 : Int) (h28 : Bool) (h29 : List Int) (h30 : List tNode.den) : Option (DenX lozFullReq_8.xs) := lpN tt hdzFullReq dr lpzFullReq 0 Go.Proofs.Tryz.f34 (subL Go.Proofs.Tryz.f34 (topL Go.Proofs.Tryz.f34 0) 0) n (lozFullReq_8.st.mk' ((h17, (h18, (h19, (h20, ())))), ((h21, (h22, (h23, (h24, (h25, ()))))), ((h26, (h27, (h28, (h29, (h30, ()))))), ())))) (decX lozFullReq_8.xs)
theorem slzFullReq_8 (n : Nat) (h17 : List tNode.den) (h18 : Int) (h19 : List tNode.den) (h20 : Int) (h21 : Bool) (h22 : List Int) (h23 : Int) (h24 : Int) (h25 : List tTopic.den) (h26 : Int) (h27 : Int) (h28 : Bool) (h29 : List Int) (h30 : List tNode.den) : itzFullReq_8 (n + 1) h17 h18 h19 h20 h21 h22 h23 h24 h25 h26 h27 h28 h29 h30 = stepzFullReq_8 h17 h18 h19 h20 h21 h22 h23 h24 h25 h26 h27 h28 h29 h30 (itzFullReq_8 n) some := by kernel_rfl
noncomputable def stepzFullReq_4 {R : Type} (h5 : List tNode.den) (h6 : Int) (h7 : Bool) (h8 : List Int) (h9 : Int) (h10 : Int) (h11 : List tTopic.den) (h12 : Int) (h13 : Int) (h14 : Bool) (h15 : List Int) (h16 : List tNode.den) (next : List tNode.den → Int → Bool → List Int → Int → Int → List tTopic.den → Int → Int → Bool → List Int → List tNode.den → Option R) (out : DenX lozFullReq_4.xs → Option R) : Option R := bif decide (h6 < (↑h11.length : Int)) then (FzFullReq_8 ((h5, (h6, ([], (0, ())))), ((h7, (h8, (h9, (h10, (h11, ()))))), ((h12, (h13, (h14, (h15, (h16, ()))))), ())))).run fun y => match y with | .ret ((), ((x58, x59, x60, ()), (x61, x62, x63, x64, x65, ()), (x66, x67, x68, x69, x70, ()), ())) => (bif decide (0 ≤ x59) && decide (x59 < (↑x65.length : Int)) then bif decide (x58.length + 1 ≤ 4294967296) then next (x58 ++ [Tre.mk (10, 0, false, [], ()) [Tre.mk (5, 0, false, (x65.getD x59.toNat ([], [], ())).fst, ()) [], Tre.mk (9, 0, false, [], ()) x60]]) (IntKind.i64.wrap (x59 + 1)) (x61) (x62) (x63) (x64) (x65) (x66) (x67) (x68) (x69) (x70) else none else none) else out (.ret ((), ((h5, ()), ((h7, (h8, (h9, (h10, (h11, ()))))), ((h12, (h13, (h14, (h15, (h16, ()))))), ())))))
noncomputable def itzFullReq_4 (n : Nat) (h5 : List tNode.den) (h6 : Int) (h7 : Bool) (h8 : List Int) (h9 : Int) (h10 : Int) (h11 : List tTopic.den) (h12 : Int) (h13 : Int) (h14 : Bool) (h15 : List Int) (h16 : List tNode.den) : Option (DenX lozFullReq_4.xs) := lpN tt hdzFullReq dr lpzFullReq 0 Go.Proofs.Tryz.f34 (topL Go.Proofs.Tryz.f34 0) n (lozFullReq_4.st.mk' ((h5, (h6, ())), ((h7, (h8, (h9, (h10, (h11, ()))))), ((h12, (h13, (h14, (h15, (h16, ()))))), ())))) (decX lozFullReq_4.xs)
theorem slzFullReq_4 (n : Nat) (h5 : List tNode.den) (h6 : Int) (h7 : Bool) (h8 : List Int) (h9 : Int) (h10 : Int) (h11 : List tTopic.den) (h12 : Int) (h13 : Int) (h14 : Bool) (h15 : List Int) (h16 : List tNode.den) : itzFullReq_4 (n + 1) h5 h6 h7 h8 h9 h10 h11 h12 h13 h14 h15 h16 = stepzFullReq_4 h5 h6 h7 h8 h9 h10 h11 h12 h13 h14 h15 h16 (itzFullReq_4 n) some := by kernel_rfl
theorem loopzFullReq_8 {ts : List tTopic.den} (hw : ∀ t ∈ ts, tTopic.wf t) (hl : ts.length ≤ maxLen) {i : Nat} (hi : i < ts.length) (hp : (ts[i]).2.1.length ≤ 4294967296) (acc : List Nd) (nz : Bool) (ns : List Int) (ak : Int) (wt : Int) (a' b' : Int) (z' : Bool) (x' : List Int) (l' : List Nd) : ∀ (k j : Nat) (o : List Nd), (ts[i]).2.1.length < j + k → j ≤ (ts[i]).2.1.length → o.length ≤ j →
    itzFullReq_8 k acc i o j nz ns ak wt ts a' b' z' x' l' = some (.ret ((), ((acc, ((i : Int), (o ++ ((ts[i]).2.1.drop j).map spFPart, ()))), ((nz, (ns, (ak, (wt, (ts, ()))))), ((a', (b', (z', (x', (l', ()))))), ()))))) := by
  intro k
  induction k with
  | zero => intro j o h1 h2; omega
  | succ k ih =>
    intro j o h1 h2 h3
    rw [slzFullReq_8]
    unfold stepzFullReq_8
    refine (bif_true (by simp; omega) _ _).trans ?_
    have hti := hw _ (List.getElem_mem hi)
    simp only [Int.toNat_natCast, getD_lt hi]
    generalize ts[i] = t at hp h1 h2 ih hti ⊢
    by_cases hj : j < t.2.1.length
    · refine (bif_true (decide_eq_true (show (j : Int) < (t.2.1.length : Int) by omega)) _ _).trans ?_
      refine (bif_true (by simp; omega) _ _).trans ?_
      refine (bif_true (by simp; omega) _ _).trans ?_
      refine (bif_true (decide_eq_true (show o.length + 1 ≤ 4294967296 by omega)) _ _).trans ?_
      have hpw := hti.2.1.2 _ (List.getElem_mem hj)
      have ih' := ih (j + 1) (o ++ [spFPart t.2.1[j]]) (by omega) (by omega) (by simp; omega)
      have hd : t.2.1.drop j = t.2.1[j] :: t.2.1.drop (j + 1) := List.drop_eq_getElem_cons hj
      rw [hd, wrap_i64 (n := (j : Int) + 1) (by omega) (by omega)]
      have hgp : List.getD t.2.1 ((j : Int)).toNat tPart.zero = t.2.1[j] := by simp only [Int.toNat_natCast]; exact getD_lt hj

      refine Eq.trans ?_ (ih'.trans ?_)
      · refine congrArg (fun x => itzFullReq_8 k acc i (o ++ [x]) _ nz ns ak wt ts a' b' z' x' l') ?_
        show ndRow [ndNum 3 (IntKind.i64.wrap (List.getD t.2.1 ((j : Int)).toNat tPart.zero).1), ndNBytes (List.getD t.2.1 ((j : Int)).toNat tPart.zero).2.1] = _
        rw [hgp]
        exact spFPart_eq hpw
      · simp only [List.map_cons, List.append_assoc, List.singleton_append]
    · refine (bif_false (decide_eq_false (show ¬ (j : Int) < (t.2.1.length : Int) by omega)) _ _).trans ?_
      rw [List.drop_of_length_le (by omega)]
      simp
theorem loopzFullReq_4 {ts : List tTopic.den} (hw : ∀ t ∈ ts, tTopic.wf t) (hl : ts.length ≤ maxLen) (hs : spLensReq ts = true) (nz : Bool) (ns : List Int) (ak : Int) (wt : Int) (a' b' : Int) (z' : Bool) (x' : List Int) (l' : List Nd) : ∀ (k j : Nat) (o : List Nd), ts.length < j + k → j ≤ ts.length → o.length ≤ j →
    itzFullReq_4 k o j nz ns ak wt ts a' b' z' x' l' = some (.ret ((), ((o ++ (ts.drop j).map spFTopic, ()), ((nz, (ns, (ak, (wt, (ts, ()))))), ((a', (b', (z', (x', (l', ()))))), ()))))) := by
  intro k
  have hs1 := (Bool.and_eq_true _ _ ▸ hs).1
  have hs2 := (Bool.and_eq_true _ _ ▸ hs).2
  have hs1 : ts.length ≤ 4294967296 := of_decide_eq_true hs1
  induction k with
  | zero => intro j o h1 h2; omega
  | succ k ih =>
    intro j o h1 h2 h3
    rw [slzFullReq_4]
    unfold stepzFullReq_4
    by_cases hj : j < ts.length
    · refine (bif_true (decide_eq_true (show (j : Int) < (ts.length : Int) by omega)) _ _).trans ?_
      have hgp : ts.getD ((j : Int)).toNat tTopic.zero = ts[j] := by simp only [Int.toNat_natCast]; exact getD_lt hj
      have hpl : (ts[j]).2.1.length ≤ 4294967296 := of_decide_eq_true (List.all_eq_true.1 hs2 _ (List.getElem_mem hj))
      have c8 : ((decide ((0 : Int) ≤ (j : Int)) && decide ((j : Int) < (ts.length : Int))) && ((decide (([] : List Nd).length = 0) && decide ((0 : Int) = 0)) && decide ((ts.getD ((j : Int)).toNat tTopic.zero).2.1.length ≤ 4294967296))) = true := by
        rw [hgp]; simp; omega
      refine (bif_true c8 _ _).trans ?_
      refine (bif_true (by simp; omega) _ _).trans ?_
      refine (bif_true (decide_eq_true (show o.length + 1 ≤ 4294967296 by omega)) _ _).trans ?_
      rw [wrap_i64 (n := (j : Int) + 1) (by omega) (by omega)]
      have ih' := ih (j + 1) (o ++ [spFTopic ts[j]]) (by omega) (by omega) (by simp; omega)
      have hd : ts.drop j = ts[j] :: ts.drop (j + 1) := List.drop_eq_getElem_cons hj
      rw [hd]
      refine Eq.trans ?_ (ih'.trans ?_)
      · refine congrArg (fun x => itzFullReq_4 k (o ++ [x]) _ nz ns ak wt ts a' b' z' x' l') ?_
        show (ndRow [ndText (ts.getD ((j : Int)).toNat tTopic.zero).1, ndRows ((ts.getD ((j : Int)).toNat tTopic.zero).2.1.map spFPart)]) = _
        rw [hgp]; rfl
      · simp only [List.map_cons, List.append_assoc, List.singleton_append]
    · refine (bif_false (decide_eq_false (show ¬ (j : Int) < (ts.length : Int) by omega)) _ _).trans ?_
      rw [List.drop_of_length_le (by omega)]
      simp
noncomputable def bodyzFullReq (a0 : Bool) (a1 : List Int) (a2 : Int) (a3 : Int) (a4 : List tTopic.den) : Option iozFullReq.Res := (FzFullReq_4 (([], (0, ())), ((a0, (a1, (a2, (a3, (a4, ()))))), ((0, (0, (false, ([], ([], ()))))), ())))).run fun y => match y with | .ret ((), ((x94, ()), (x95, x96, x97, x98, x99, ()), (x100, x101, x102, x103, x104, ()), ())) => (some (Out.ret ((Tre.mk (10, 0, false, [], ()) [Tre.mk (6, 0, x95, x96, ()) [], Tre.mk (2, IntKind.i64.wrap x97, false, [], ()) [], Tre.mk (3, IntKind.i64.wrap x98, false, [], ()) [], Tre.mk (9, 0, false, [], ()) x94], ()), ())))
theorem runzFullReq (a0 : Bool) (a1 : List Int) (a2 : Int) (a3 : Int) (a4 : List tTopic.den) : Io.run tt hdzFullReq dr lpzFullReq iozFullReq Go.Proofs.Tryz.f34 ((((a0, a1, ()), a2, a3, a4, ()), ()), ()) = bodyzFullReq a0 a1 a2 a3 a4 := by kernel_rfl
theorem okzFullReq : HcOk prog 34 (ioHd iozFullReq FzFullReq) := by
  refine fn_sound (n := 400) hm (cs := cszFullReq) (.cons oktNum (.cons oktNBytes (.cons oktRow (.cons oktText (.cons oktRows (.cons oktNText .nil)))))) (lp := lpzFullReq) (fn := Go.Proofs.Tryz.f34) (by kernel_rfl) (by kernel_rfl) (by kernel_rfl) iozFullReq (.step (h0 := loHd lozFullReq_4 FzFullReq_4) (by kernel_rfl) (loop_sound (n := 400) hm (cs := cszFullReq) (.cons oktNum (.cons oktNBytes (.cons oktRow (.cons oktText (.cons oktRows (.cons oktNText .nil)))))) (lp := lpzFullReq) (fn := Go.Proofs.Tryz.f34) (.step (h0 := loHd lozFullReq_8 FzFullReq_8) (by kernel_rfl) (loop_sound (n := 400) hm (cs := cszFullReq) (.cons oktNum (.cons oktNBytes (.cons oktRow (.cons oktText (.cons oktRows (.cons oktNText .nil)))))) (lp := lpzFullReq) (fn := Go.Proofs.Tryz.f34) (.done (by kernel_rfl)) lozFullReq_8 FzFullReq_8 ?_) (.done (by kernel_rfl))) lozFullReq_4 FzFullReq_4 ?_) (.done (by kernel_rfl))) FzFullReq ?_
  · rintro ⟨⟨(acc : List Nd), (i : Int), (o : List Nd), (j : Int), ⟨⟩⟩, ⟨⟨(nz : Bool), (ns : List Int), (ak : Int), (wt : Int), (ts : List tTopic.den), ⟨⟩⟩, ⟨(a' : Int), (b' : Int), (z' : Bool), (x' : List Int), (l' : List Nd), ⟨⟩⟩, ⟨⟩⟩⟩ y hw hy
    obtain ⟨hg, hy⟩ := Tr.guard hy
    simp only [Bool.and_eq_true, decide_eq_true_eq] at hg
    obtain ⟨⟨h1, h2⟩, ⟨h3, h4⟩, h5⟩ := hg
    have h1 : 0 ≤ i := h1
    have h2 : i < (ts.length : Int) := h2
    have h3 : o = [] := List.eq_nil_of_length_eq_zero h3
    have h4 : j = 0 := h4
    obtain ⟨i, rfl⟩ := toNat_of h1
    subst h3
    subst h4
    have hi : i < ts.length := by omega
    have hgp : ts.getD ((i : Int)).toNat tTopic.zero = ts[i] := by simp only [Int.toNat_natCast]; exact getD_lt hi
    have h5 : (ts.getD ((i : Int)).toNat tTopic.zero).2.1.length ≤ 4294967296 := h5
    rw [hgp] at h5
    have hwt : ts.length ≤ maxLen ∧ ∀ t ∈ ts, tTopic.wf t := by have := hw.2.1.2.2.2.2.1; exact this
    refine ⟨(ts[i]).2.1.length + 1, (loopzFullReq_8 hwt.2 hwt.1 hi h5 acc nz ns ak wt a' b' z' x' l' ((ts[i]).2.1.length + 1) 0 [] (by omega) (by omega) (by simp)).trans ?_⟩
    rw [← hy, ← hgp, List.drop_zero]
    rfl
  · rintro ⟨⟨(o : List Nd), (j : Int), ⟨⟩⟩, ⟨⟨(nz : Bool), (ns : List Int), (ak : Int), (wt : Int), (ts : List tTopic.den), ⟨⟩⟩, ⟨(a' : Int), (b' : Int), (z' : Bool), (x' : List Int), (l' : List Nd), ⟨⟩⟩, ⟨⟩⟩⟩ y hw hy
    obtain ⟨hg, hy⟩ := Tr.guard hy
    simp only [Bool.and_eq_true, decide_eq_true_eq] at hg
    obtain ⟨⟨h3, h4⟩, h5⟩ := hg
    have h3 : o = [] := List.eq_nil_of_length_eq_zero h3
    have h4 : j = 0 := h4
    have h5 : spLensReq ts = true := h5
    subst h3
    subst h4
    have hwt : ts.length ≤ maxLen ∧ ∀ t ∈ ts, tTopic.wf t := by have := hw.2.1.2.2.2.2.1; exact this
    refine ⟨ts.length + 1, (loopzFullReq_4 hwt.2 hwt.1 h5 nz ns ak wt a' b' z' x' l' (ts.length + 1) 0 [] (by omega) (by omega) (by simp)).trans ?_⟩
    rw [← hy, List.drop_zero]
    rfl
  · rintro ⟨⟨⟨⟨(nz : Bool), (ns : List Int), ⟨⟩⟩, (ak : Int), (wt : Int), (ts : List tTopic.den), ⟨⟩⟩, ⟨⟩⟩, ⟨⟩⟩ out hw ho
    obtain ⟨hg, ho⟩ := Tr.guard ho
    have hg : spLensReq ts = true := hg
    cases ho
    refine (runzFullReq nz ns ak wt ts).trans ?_
    unfold bodyzFullReq
    have c1 : ((decide (([] : List Nd).length = 0) && decide ((0 : Int) = 0)) && spLensReq ts) = true := by rw [hg]; rfl
    refine (bif_true c1 _ _).trans ?_
    show _ = some (Out.ret ((spFullReq ((nz, (ns, ())), (ak, (wt, (ts, ())))), ()), ()))
    unfold spFullReq
    have h1 : IntKind.i64.wrap ak = ak := i64_i16 hw.1.1.2.1
    have h2 : IntKind.i64.wrap wt = wt := i64_i32 hw.1.1.2.2.1
    show some (Out.ret ((ndRow [ndNText (nz, (ns, ())), ndNum 2 (IntKind.i64.wrap ak), ndNum 3 (IntKind.i64.wrap wt), ndRows (ts.map spFTopic)], ()), ())) = _
    rw [h1, h2]
/-! ### leat/leatref11.ReqOf -/
noncomputable abbrev iozReqOf : Io := ⟨[dNode], [], [], [.dat tReq true false], none⟩
noncomputable def FzReqOf (d : iozReqOf.In) : Tr iozReqOf.Res := .ite (decide (spWt d.1.1 ≤ 4294967296)) (.ret (.ret ((spReqOf d.1.1, ()), ()))) .no
noncomputable abbrev cszReqOf : List (Nat × Hc) := [(89, ioHd iotAt FtAt), (88, ioHd iotNameOf FtNameOf), (90, ioHd iotBlobOf FtBlobOf)]
noncomputable def hdzReqOf : Hd := hdT cszReqOf
noncomputable abbrev lozReqOf_10 : Lo := ⟨⟨[.any, .any, .one (.ptr 2 0), .one (.ptr 3 0), .one (.hol (.sl 68 tNode)), .one (.hol (.int IntKind.i64)), .one (.ptr 6 0), .one (.hol (.sl 68 tNode)), .one (.hol (.int IntKind.i64)), .any, .any, .any, .any, .any, .any, .any, .any, .any, .any, .any, .any, .any, .any, .any, .any, .any, .any, .any, .any, .any, .any, .any, .any, .any, .any, .any, .any, .any, .any, .any, .any, .any, .any, .any, .any, .any, .any, .any, .any, .any, .any, .any, .any, .any, .any, .any, .any, .any, .any, .any, .any, .any, .any, .any, .any, .any, .any, .any, .any, .any, .any, .any, .any, .any, .any, .any], [none, none, some [.hol .bool, .hol .str, .hol (.int IntKind.i16), .hol (.int IntKind.i32), .onl 86 tTopic 1034], some [.hol .bool, .hol .str, .hol (.int IntKind.i16), .hol (.int IntKind.i32), .onl 86 tTopic 1546], none, none, some [.hol .str, .onl 92 tPart 3076]]⟩, [(.exit 2, ⟨[.any, .any, .one (.ptr 2 0), .one (.ptr 3 0), .one (.hol (.sl 68 tNode)), .one (.hol (.int IntKind.i64)), .one (.ptr 6 0), .any, .any, .any, .any, .any, .any, .any, .any, .any, .any, .any, .any, .any, .any, .any, .any, .any, .any, .any, .any, .any, .any, .any, .any, .any, .any, .any, .any, .any, .any, .any, .any, .any, .any, .any, .any, .any, .any, .any, .any, .any, .any, .any, .any, .any, .any, .any, .any, .any, .any, .any, .any, .any, .any, .any, .any, .any, .any, .any, .any, .any, .any, .any, .any, .any, .any, .any, .any, .any], [none, none, some [.hol .bool, .hol .str, .hol (.int IntKind.i16), .hol (.int IntKind.i32), .onl 86 tTopic 1034], some [.hol .bool, .hol .str, .hol (.int IntKind.i16), .hol (.int IntKind.i32), .onl 86 tTopic 1546], none, none, some [.hol .str, .onl 92 tPart 3076]]⟩)]⟩
-- FzReqOf_10 : lozReqOf_10.st.den → Tr (DenX lozReqOf_10.xs) | ((h13, (h14, (h15, (h16, ())))), ((h17, (h18, (h19, (h20, (h21, ()))))), ((h22, (h23, (h24, (h25, (h26, ()))))), ((h27, (h28, ())), ()))))
noncomputable abbrev lozReqOf_5 : Lo := ⟨⟨[.any, .any, .one (.ptr 2 0), .one (.ptr 3 0), .one (.hol (.sl 68 tNode)), .one (.hol (.int IntKind.i64)), .any, .any, .any, .any, .any, .any, .any, .any, .any, .any, .any, .any, .any, .any, .any, .any, .any, .any, .any, .any, .any, .any, .any, .any, .any, .any, .any, .any, .any, .any, .any, .any, .any, .any, .any, .any, .any, .any, .any, .any, .any, .any, .any, .any, .any, .any, .any, .any, .any, .any, .any, .any, .any, .any, .any, .any, .any, .any, .any, .any, .any, .any, .any, .any, .any, .any, .any, .any, .any, .any], [none, none, some [.hol .bool, .hol .str, .hol (.int IntKind.i16), .hol (.int IntKind.i32), .onl 86 tTopic 1034], some [.hol .bool, .hol .str, .hol (.int IntKind.i16), .hol (.int IntKind.i32), .onl 86 tTopic 1546]]⟩, [(.exit 0, ⟨[.any, .any, .one (.ptr 2 0), .one (.ptr 3 0), .any, .any, .any, .any, .any, .any, .any, .any, .any, .any, .any, .any, .any, .any, .any, .any, .any, .any, .any, .any, .any, .any, .any, .any, .any, .any, .any, .any, .any, .any, .any, .any, .any, .any, .any, .any, .any, .any, .any, .any, .any, .any, .any, .any, .any, .any, .any, .any, .any, .any, .any, .any, .any, .any, .any, .any, .any, .any, .any, .any, .any, .any, .any, .any, .any, .any, .any, .any, .any, .any, .any, .any], [none, none, some [.hol .bool, .hol .str, .hol (.int IntKind.i16), .hol (.int IntKind.i32), .onl 86 tTopic 1034], some [.hol .bool, .hol .str, .hol (.int IntKind.i16), .hol (.int IntKind.i32), .onl 86 tTopic 1546]]⟩)]⟩
-- FzReqOf_5 : lozReqOf_5.st.den → Tr (DenX lozReqOf_5.xs) | ((h1, (h2, ())), ((h3, (h4, (h5, (h6, (h7, ()))))), ((h8, (h9, (h10, (h11, (h12, ()))))), ())))
noncomputable def FzReqOf_10 (d : lozReqOf_10.st.den) : Tr (DenX lozReqOf_10.xs) :=
  .ite ((decide (d.1.2.2.2.1 = 0) && decide (d.2.2.2.1.2.1.length = 0)) && decide (spWts d.1.2.2.1 ≤ 4294967296))
    (.ret (.ret ((), ((d.1.1, (d.1.2.1, ())), (d.2.1, (d.2.2.1, ((d.2.2.2.1.1, (d.1.2.2.1.map spPartOf, ())), ()))))))) .no
noncomputable def FzReqOf_5 (d : lozReqOf_5.st.den) : Tr (DenX lozReqOf_5.xs) :=
  .ite ((decide (d.1.2.1 = 0) && decide (d.2.2.1.2.2.2.2.1.length = 0)) && decide (spWts d.1.1 ≤ 4294967296))
    (.ret (.ret ((), ((), (d.2.1, ((d.2.2.1.1, (d.2.2.1.2.1, (d.2.2.1.2.2.1, (d.2.2.1.2.2.2.1, (d.1.1.map spTopicOf, ()))))), ())))))) .no
noncomputable def lpzReqOf : Lp := lpT [(5, loHd lozReqOf_5 FzReqOf_5), (10, loHd lozReqOf_10 FzReqOf_10)]
noncomputable def stepzReqOf_10 {R : Type} (h13 : List (Nd)) (h14 : Int) (h15 : List (Nd)) (h16 : Int) (h17 : Bool) (h18 : List Int) (h19 : Int) (h20 : Int) (h21 : List tTopic.den) (h22 : Bool) (h23 : List Int) (h24 : Int) (h25 : Int) (h26 : List tTopic.den) (h27 : List Int) (h28 : List tPart.den) (next : List (Nd) → Int → List (Nd) → Int → Bool → List Int → Int → Int → List tTopic.den → Bool → List Int → Int → Int → List tTopic.den → List Int → List tPart.den → Option R) (out : DenX lozReqOf_10.xs → Option R) : Option R := bif decide (h16 < (↑h15.length : Int)) then bif decide (0 ≤ h16) && decide (h16 < (↑h15.length : Int)) then bif decide (0 ≤ h16) && decide (h16 < (↑h15.length : Int)) then bif decide (List.length (spAt (Tre.mk (h15.getD h16.toNat (Tre.mk (0, 0, false, [], ()) [])).1 (h15.getD h16.toNat (Tre.mk (0, 0, false, [], ()) [])).2) 1).1.snd.snd.snd.fst ≤ 4294967296) then bif decide (h28.length + 1 ≤ 4294967296) then next (h13) (h14) (h15) (IntKind.i64.wrap (h16 + 1)) (h17) (h18) (h19) (h20) (h21) (h22) (h23) (h24) (h25) (h26) (h27) (h28 ++ [(IntKind.i32.wrap (spAt (Tre.mk (h15.getD h16.toNat (Tre.mk (0, 0, false, [], ()) [])).1 (h15.getD h16.toNat (Tre.mk (0, 0, false, [], ()) [])).2) 0).1.snd.fst, (spAt (Tre.mk (h15.getD h16.toNat (Tre.mk (0, 0, false, [], ()) [])).1 (h15.getD h16.toNat (Tre.mk (0, 0, false, [], ()) [])).2) 1).1.snd.snd, ())]) else none else none else none else none else out (.ret ((), ((h13, (h14, ())), ((h17, (h18, (h19, (h20, (h21, ()))))), ((h22, (h23, (h24, (h25, (h26, ()))))), ((h27, (h28, ())), ()))))))
noncomputable def itzReqOf_10 (n : Nat) (h13 : List (Nd)) (h14 : Int) (h15 : List (Nd)) (h16 : Int) (h17 : Bool) (h18 : List Int) (h19 : Int) (h20 : Int) (h21 : List tTopic.den) (h22 : Bool) (h23 : List Int) (h24 : Int) (h25 : Int) (h26 : List tTopic.den) (h27 : List Int) (h28 : List tPart.den) : Option (DenX lozReqOf_10.xs) := lpN tt hdzReqOf dr lpzReqOf 0 Go.Proofs.Tryz.f32 (subL Go.Proofs.Tryz.f32 (topL Go.Proofs.Tryz.f32 0) 0) n (lozReqOf_10.st.mk' ((h13, (h14, (h15, (h16, ())))), ((h17, (h18, (h19, (h20, (h21, ()))))), ((h22, (h23, (h24, (h25, (h26, ()))))), ((h27, (h28, ())), ()))))) (decX lozReqOf_10.xs)
theorem slzReqOf_10 (n : Nat) (h13 : List (Nd)) (h14 : Int) (h15 : List (Nd)) (h16 : Int) (h17 : Bool) (h18 : List Int) (h19 : Int) (h20 : Int) (h21 : List tTopic.den) (h22 : Bool) (h23 : List Int) (h24 : Int) (h25 : Int) (h26 : List tTopic.den) (h27 : List Int) (h28 : List tPart.den) : itzReqOf_10 (n + 1) h13 h14 h15 h16 h17 h18 h19 h20 h21 h22 h23 h24 h25 h26 h27 h28 = stepzReqOf_10 h13 h14 h15 h16 h17 h18 h19 h20 h21 h22 h23 h24 h25 h26 h27 h28 (itzReqOf_10 n) some := by kernel_rfl
noncomputable def stepzReqOf_5 {R : Type} (h1 : List (Nd)) (h2 : Int) (h3 : Bool) (h4 : List Int) (h5 : Int) (h6 : Int) (h7 : List tTopic.den) (h8 : Bool) (h9 : List Int) (h10 : Int) (h11 : Int) (h12 : List tTopic.den) (next : List (Nd) → Int → Bool → List Int → Int → Int → List tTopic.den → Bool → List Int → Int → Int → List tTopic.den → Option R) (out : DenX lozReqOf_5.xs → Option R) : Option R := bif decide (h2 < (↑h1.length : Int)) then bif decide (0 ≤ h2) && decide (h2 < (↑h1.length : Int)) then bif decide (0 ≤ h2) && decide (h2 < (↑h1.length : Int)) then (FzReqOf_10 ((h1, (h2, ((spAt (Tre.mk (h1.getD h2.toNat (Tre.mk (0, 0, false, [], ()) [])).1 (h1.getD h2.toNat (Tre.mk (0, 0, false, [], ()) [])).2) 1).2, (0, ())))), ((h3, (h4, (h5, (h6, (h7, ()))))), ((h8, (h9, (h10, (h11, (h12, ()))))), (((spAt (Tre.mk (h1.getD h2.toNat (Tre.mk (0, 0, false, [], ()) [])).1 (h1.getD h2.toNat (Tre.mk (0, 0, false, [], ()) [])).2) 0).1.snd.snd.snd.fst, ([], ())), ()))))).run fun y => match y with | .ret ((), ((x59, x60, ()), (x61, x62, x63, x64, x65, ()), (x66, x67, x68, x69, x70, ()), (x71, x72, ()), ())) => (bif decide (x70.length + 1 ≤ 4294967296) then next (x59) (IntKind.i64.wrap (x60 + 1)) (x61) (x62) (x63) (x64) (x65) (x66) (x67) (x68) (x69) (x70 ++ [(x71, x72, ())]) else none) else none else none else out (.ret ((), ((), ((h3, (h4, (h5, (h6, (h7, ()))))), ((h8, (h9, (h10, (h11, (h12, ()))))), ())))))
noncomputable def itzReqOf_5 (n : Nat) (h1 : List (Nd)) (h2 : Int) (h3 : Bool) (h4 : List Int) (h5 : Int) (h6 : Int) (h7 : List tTopic.den) (h8 : Bool) (h9 : List Int) (h10 : Int) (h11 : Int) (h12 : List tTopic.den) : Option (DenX lozReqOf_5.xs) := lpN tt hdzReqOf dr lpzReqOf 0 Go.Proofs.Tryz.f32 (topL Go.Proofs.Tryz.f32 0) n (lozReqOf_5.st.mk' ((h1, (h2, ())), ((h3, (h4, (h5, (h6, (h7, ()))))), ((h8, (h9, (h10, (h11, (h12, ()))))), ())))) (decX lozReqOf_5.xs)
theorem slzReqOf_5 (n : Nat) (h1 : List (Nd)) (h2 : Int) (h3 : Bool) (h4 : List Int) (h5 : Int) (h6 : Int) (h7 : List tTopic.den) (h8 : Bool) (h9 : List Int) (h10 : Int) (h11 : Int) (h12 : List tTopic.den) : itzReqOf_5 (n + 1) h1 h2 h3 h4 h5 h6 h7 h8 h9 h10 h11 h12 = stepzReqOf_5 h1 h2 h3 h4 h5 h6 h7 h8 h9 h10 h11 h12 (itzReqOf_5 n) some := by kernel_rfl
theorem loopzReqOf_10 {ps : List Nd} (hb : spWts ps ≤ 4294967296) (tops : List Nd) (i : Int) (nz0 : Bool) (ns0 : List Int) (ak0 : Int) (wt0 : Int) (ts0 : List tTopic.den) (nz : Bool) (ns : List Int) (ak : Int) (wt : Int) (ts : List tTopic.den) (tn : List Int) : ∀ (k j : Nat) (o : List tPart.den), ps.length < j + k → j ≤ ps.length → o.length ≤ j →
    itzReqOf_10 k tops i ps j nz0 ns0 ak0 wt0 ts0 nz ns ak wt ts tn o = some (.ret ((), ((tops, (i, ())), ((nz0, (ns0, (ak0, (wt0, (ts0, ()))))), ((nz, (ns, (ak, (wt, (ts, ()))))), ((tn, (o ++ (ps.drop j).map spPartOf, ())), ())))))) := by
  intro k
  have hlen := spWts_len ps
  induction k with
  | zero => intro j o h1 h2; omega
  | succ k ih =>
    intro j o h1 h2 h3
    rw [slzReqOf_10]
    unfold stepzReqOf_10
    by_cases hj : j < ps.length
    · refine (bif_true (decide_eq_true (show (j : Int) < (ps.length : Int) by omega)) _ _).trans ?_
      have hmem := spWt_mem (List.getElem_mem hj)
      have ih' := ih (j + 1) (o ++ [spPartOf ps[j]]) (by omega) (by omega) (by simp; omega)
      have hd : ps.drop j = ps[j] :: ps.drop (j + 1) := List.drop_eq_getElem_cons hj
      rw [hd, wrap_i64 (n := (j : Int) + 1) (by omega) (by omega)]
      simp only [Int.toNat_natCast, getD_lt hj]
      generalize ps[j] = u at hmem ih' ⊢
      obtain ⟨ul, uk⟩ := u
      refine (bif_true (by simp; omega) _ _).trans ?_
      refine (bif_true (by simp; omega) _ _).trans ?_
      refine (bif_true (decide_eq_true (show (spAt (Tre.mk ul uk) 1).lab.2.2.2.1.length ≤ 4294967296 by have := spAt_wt (Tre.mk ul uk) 1; have := spWt_data (spAt (Tre.mk ul uk) 1); omega)) _ _).trans ?_
      refine (bif_true (decide_eq_true (show o.length + 1 ≤ 4294967296 by omega)) _ _).trans ?_
      refine ih'.trans ?_
      simp only [List.map_cons, List.append_assoc, List.singleton_append]
    · refine (bif_false (decide_eq_false (show ¬ (j : Int) < (ps.length : Int) by omega)) _ _).trans ?_
      rw [List.drop_of_length_le (by omega)]
      simp
theorem loopzReqOf_5 {nds : List Nd} (hb : spWts nds ≤ 4294967296) (nz0 : Bool) (ns0 : List Int) (ak0 : Int) (wt0 : Int) (ts0 : List tTopic.den) (nz : Bool) (ns : List Int) (ak : Int) (wt : Int) : ∀ (k j : Nat) (ts : List tTopic.den), nds.length < j + k → j ≤ nds.length → ts.length ≤ j →
    itzReqOf_5 k nds j nz0 ns0 ak0 wt0 ts0 nz ns ak wt ts = some (.ret ((), ((), ((nz0, (ns0, (ak0, (wt0, (ts0, ()))))), ((nz, (ns, (ak, (wt, (ts ++ (nds.drop j).map spTopicOf, ()))))), ()))))) := by
  intro k
  have hlen := spWts_len nds
  induction k with
  | zero => intro j o h1 h2; omega
  | succ k ih =>
    intro j ts h1 h2 h3
    rw [slzReqOf_5]
    unfold stepzReqOf_5
    by_cases hj : j < nds.length
    · refine (bif_true (decide_eq_true (show (j : Int) < (nds.length : Int) by omega)) _ _).trans ?_
      have hmem := spWt_mem (List.getElem_mem hj)
      have ih' := ih (j + 1) (ts ++ [spTopicOf nds[j]]) (by omega) (by omega) (by simp; omega)
      have hd : nds.drop j = nds[j] :: nds.drop (j + 1) := List.drop_eq_getElem_cons hj
      rw [hd]
      simp only [Int.toNat_natCast, getD_lt hj]
      generalize nds[j] = u at hmem ih' ⊢
      obtain ⟨ul, uk⟩ := u
      refine (bif_true (by simp; omega) _ _).trans ?_
      refine (bif_true (by simp; omega) _ _).trans ?_
      have hw1 := spAt_wt (Tre.mk ul uk) 1
      have hw2 := spWts_kids (spAt (Tre.mk ul uk) 1)
      have cA : ((decide ((0 : Int) = 0) && decide (([] : List tPart.den).length = 0)) && decide (spWts (spAt (Tre.mk ul uk) 1).kids ≤ 4294967296)) = true := by simp; omega
      refine (bif_true cA _ _).trans ?_
      refine (bif_true (decide_eq_true (show ts.length + 1 ≤ 4294967296 by omega)) _ _).trans ?_
      rw [wrap_i64 (n := (j : Int) + 1) (by omega) (by omega)]
      refine ih'.trans ?_
      simp only [List.map_cons, List.append_assoc, List.singleton_append]
    · refine (bif_false (decide_eq_false (show ¬ (j : Int) < (nds.length : Int) by omega)) _ _).trans ?_
      rw [List.drop_of_length_le (by omega)]
      simp
noncomputable def bodyzReqOf (a0 : Nd) : Option iozReqOf.Res := (FzReqOf_5 (((spAt (Tre.mk a0.1 a0.2) 3).2, (0, ())), ((false, ([], (0, (0, ([], ()))))), (((spAt (Tre.mk a0.1 a0.2) 0).1.snd.snd.fst, ((spAt (Tre.mk a0.1 a0.2) 0).1.snd.snd.snd.fst, (IntKind.i16.wrap (spAt (Tre.mk a0.1 a0.2) 1).1.snd.fst, (IntKind.i32.wrap (spAt (Tre.mk a0.1 a0.2) 2).1.snd.fst, ([], ()))))), ())))).run fun y => match y with | .ret ((), ((), (x95, x96, x97, x98, x99, ()), (x100, x101, x102, x103, x104, ()), ())) => (some (Out.ret ((((x100, x101, ()), x102, x103, x104, ()), ()), ())))
theorem runzReqOf (a0 : Nd) : Io.run tt hdzReqOf dr lpzReqOf iozReqOf Go.Proofs.Tryz.f32 ((a0, ()), ()) = bodyzReqOf a0 := by kernel_rfl
theorem okzReqOf : HcOk prog 32 (ioHd iozReqOf FzReqOf) := by
  refine fn_sound (n := 400) hm (cs := cszReqOf) (.cons oktAt (.cons oktNameOf (.cons oktBlobOf .nil))) (lp := lpzReqOf) (fn := Go.Proofs.Tryz.f32) (by kernel_rfl) (by kernel_rfl) (by kernel_rfl) iozReqOf (.step (h0 := loHd lozReqOf_5 FzReqOf_5) (by kernel_rfl) (loop_sound (n := 400) hm (cs := cszReqOf) (.cons oktAt (.cons oktNameOf (.cons oktBlobOf .nil))) (lp := lpzReqOf) (fn := Go.Proofs.Tryz.f32) (.step (h0 := loHd lozReqOf_10 FzReqOf_10) (by kernel_rfl) (loop_sound (n := 400) hm (cs := cszReqOf) (.cons oktAt (.cons oktNameOf (.cons oktBlobOf .nil))) (lp := lpzReqOf) (fn := Go.Proofs.Tryz.f32) (.done (by kernel_rfl)) lozReqOf_10 FzReqOf_10 ?_) (.done (by kernel_rfl))) lozReqOf_5 FzReqOf_5 ?_) (.done (by kernel_rfl))) FzReqOf ?_
  · rintro ⟨⟨(tops : List Nd), (i : Int), (ps : List Nd), (j : Int), ⟨⟩⟩, ⟨⟨(nz0 : Bool), (ns0 : List Int), (ak0 : Int), (wt0 : Int), (ts0 : List tTopic.den), ⟨⟩⟩, ⟨(nz : Bool), (ns : List Int), (ak : Int), (wt : Int), (ts : List tTopic.den), ⟨⟩⟩, ⟨(tn : List Int), (o : List tPart.den), ⟨⟩⟩, ⟨⟩⟩⟩ y hw hy
    obtain ⟨hg, hy⟩ := Tr.guard hy
    simp only [Bool.and_eq_true, decide_eq_true_eq] at hg
    obtain ⟨⟨h1, h2⟩, h3⟩ := hg
    have h1 : j = 0 := h1
    have h2 : o = [] := List.eq_nil_of_length_eq_zero h2
    have h3 : spWts ps ≤ 4294967296 := h3
    subst h1
    subst h2
    refine ⟨ps.length + 1, (loopzReqOf_10 h3 tops i nz0 ns0 ak0 wt0 ts0 nz ns ak wt ts tn (ps.length + 1) 0 [] (by omega) (by omega) (by simp)).trans ?_⟩
    rw [← hy, List.drop_zero]
    rfl
  · rintro ⟨⟨(nds : List Nd), (j : Int), ⟨⟩⟩, ⟨⟨(nz0 : Bool), (ns0 : List Int), (ak0 : Int), (wt0 : Int), (ts0 : List tTopic.den), ⟨⟩⟩, ⟨(nz : Bool), (ns : List Int), (ak : Int), (wt : Int), (ts : List tTopic.den), ⟨⟩⟩, ⟨⟩⟩⟩ y hw hy
    obtain ⟨hg, hy⟩ := Tr.guard hy
    simp only [Bool.and_eq_true, decide_eq_true_eq] at hg
    obtain ⟨⟨h1, h2⟩, h3⟩ := hg
    have h1 : j = 0 := h1
    have h2 : ts = [] := List.eq_nil_of_length_eq_zero h2
    have h3 : spWts nds ≤ 4294967296 := h3
    subst h1
    subst h2
    refine ⟨nds.length + 1, (loopzReqOf_5 h3 nz0 ns0 ak0 wt0 ts0 nz ns ak wt (nds.length + 1) 0 [] (by omega) (by omega) (by simp)).trans ?_⟩
    rw [← hy, List.drop_zero]
    rfl
  · rintro ⟨⟨(n : Nd), ⟨⟩⟩, ⟨⟩⟩ out hw ho
    obtain ⟨hg, ho⟩ := Tr.guard ho
    have hg : spWt n ≤ 4294967296 := of_decide_eq_true hg
    cases ho
    refine (runzReqOf n).trans ?_
    unfold bodyzReqOf
    obtain ⟨nl, nk⟩ := n
    have hw1 := spAt_wt (Tre.mk nl nk) 3
    have hw2 := spWts_kids (spAt (Tre.mk nl nk) 3)
    have c1 : ((decide ((0 : Int) = 0) && decide (([] : List tTopic.den).length = 0)) && decide (spWts (spAt (Tre.mk nl nk) 3).kids ≤ 4294967296)) = true := by simp; omega
    refine (bif_true c1 _ _).trans ?_
    show _ = some (Out.ret ((spReqOf (Tre.mk nl nk), ()), ()))
    unfold spReqOf
    rfl
/-! ### leat/leatref11.FullRep -/
noncomputable abbrev iozFullRep : Io := ⟨[.dat tRep true false], [], [], [dNode], none⟩
noncomputable def spLensRep (l : List tGone.den) : Bool := decide (l.length ≤ 4294967296) && l.all fun t => decide (t.2.1.length ≤ 4294967296)
noncomputable def FzFullRep (d : iozFullRep.In) : Tr iozFullRep.Res := .ite (spLensRep d.1.1.1) (.ret (.ret ((spFullRep d.1.1, ()), ()))) .no
noncomputable abbrev cszFullRep : List (Nat × Hc) := [(92, ioHd iotNum FtNum), (93, ioHd iotNBytes FtNBytes), (91, ioHd iotRow FtRow), (94, ioHd iotText FtText), (95, ioHd iotRows FtRows), (96, ioHd iotNText FtNText)]
noncomputable def hdzFullRep : Hd := hdT cszFullRep
noncomputable abbrev lozFullRep_8 : Lo := ⟨⟨[.any, .one (.ptr 1 0), .one (.ptr 2 0), .one (.onl 68 tNode 7), .one (.hol (.int IntKind.i64)), .one (.onl 68 tNode 11), .one (.hol (.int IntKind.i64)), .any, .any, .any, .any, .any, .any, .any, .any, .any, .any, .any, .any, .any, .any, .any, .any, .any, .any, .any, .any, .any, .any, .any, .any, .any, .any, .any, .any, .any, .any, .any, .any, .any, .any, .any, .any, .any, .any, .any, .any, .any, .any, .any, .any, .any, .any, .any, .any, .any, .any, .any, .any, .any, .any, .any, .any, .any, .any, .any, .any, .any, .any, .any, .any, .any, .any, .any, .any, .any, .any, .any, .any, .any, .any, .any, .any], [none, some [.hol (.sl 103 tGone), .hol (.int IntKind.i32)], some [.hol (.int IntKind.i64), .hol (.int IntKind.i64), .hol .bool, .onl 5 (Ty.int IntKind.u8) 1032, .onl 68 tNode 1034]]⟩, [(.exit 2, ⟨[.any, .one (.ptr 1 0), .one (.ptr 2 0), .one (.onl 68 tNode 7), .one (.hol (.int IntKind.i64)), .one (.onl 68 tNode 11), .any, .any, .any, .any, .any, .any, .any, .any, .any, .any, .any, .any, .any, .any, .any, .any, .any, .any, .any, .any, .any, .any, .any, .any, .any, .any, .any, .any, .any, .any, .any, .any, .any, .any, .any, .any, .any, .any, .any, .any, .any, .any, .any, .any, .any, .any, .any, .any, .any, .any, .any, .any, .any, .any, .any, .any, .any, .any, .any, .any, .any, .any, .any, .any, .any, .any, .any, .any, .any, .any, .any, .any, .any, .any, .any, .any, .any], [none, some [.hol (.sl 103 tGone), .hol (.int IntKind.i32)], some [.hol (.int IntKind.i64), .hol (.int IntKind.i64), .hol .bool, .onl 5 (Ty.int IntKind.u8) 1032, .onl 68 tNode 1034]]⟩)]⟩
-- FzFullRep_8 : lozFullRep_8.st.den → Tr (DenX lozFullRep_8.xs) | ((h11, (h12, (h13, (h14, ())))), ((h15, (h16, ())), ((h17, (h18, (h19, (h20, (h21, ()))))), ())))
noncomputable abbrev lozFullRep_4 : Lo := ⟨⟨[.any, .one (.ptr 1 0), .one (.ptr 2 0), .one (.onl 68 tNode 7), .one (.hol (.int IntKind.i64)), .any, .any, .any, .any, .any, .any, .any, .any, .any, .any, .any, .any, .any, .any, .any, .any, .any, .any, .any, .any, .any, .any, .any, .any, .any, .any, .any, .any, .any, .any, .any, .any, .any, .any, .any, .any, .any, .any, .any, .any, .any, .any, .any, .any, .any, .any, .any, .any, .any, .any, .any, .any, .any, .any, .any, .any, .any, .any, .any, .any, .any, .any, .any, .any, .any, .any, .any, .any, .any, .any, .any, .any, .any, .any, .any, .any, .any, .any], [none, some [.hol (.sl 103 tGone), .hol (.int IntKind.i32)], some [.hol (.int IntKind.i64), .hol (.int IntKind.i64), .hol .bool, .onl 5 (Ty.int IntKind.u8) 1032, .onl 68 tNode 1034]]⟩, [(.exit 0, ⟨[.any, .one (.ptr 1 0), .one (.ptr 2 0), .one (.onl 68 tNode 7), .any, .any, .any, .any, .any, .any, .any, .any, .any, .any, .any, .any, .any, .any, .any, .any, .any, .any, .any, .any, .any, .any, .any, .any, .any, .any, .any, .any, .any, .any, .any, .any, .any, .any, .any, .any, .any, .any, .any, .any, .any, .any, .any, .any, .any, .any, .any, .any, .any, .any, .any, .any, .any, .any, .any, .any, .any, .any, .any, .any, .any, .any, .any, .any, .any, .any, .any, .any, .any, .any, .any, .any, .any, .any, .any, .any, .any, .any, .any], [none, some [.hol (.sl 103 tGone), .hol (.int IntKind.i32)], some [.hol (.int IntKind.i64), .hol (.int IntKind.i64), .hol .bool, .onl 5 (Ty.int IntKind.u8) 1032, .onl 68 tNode 1034]]⟩)]⟩
-- FzFullRep_4 : lozFullRep_4.st.den → Tr (DenX lozFullRep_4.xs) | ((h2, (h3, ())), ((h4, (h5, ())), ((h6, (h7, (h8, (h9, (h10, ()))))), ())))
noncomputable def FzFullRep_8 (d : lozFullRep_8.st.den) : Tr (DenX lozFullRep_8.xs) :=
  .ite ((decide ((0 : Int) ≤ d.1.2.1) && decide (d.1.2.1 < (d.2.1.1.length : Int))) && ((decide (d.1.2.2.1.length = 0) && decide (d.1.2.2.2.1 = 0)) && decide ((d.2.1.1.getD d.1.2.1.toNat tGone.zero).2.1.length ≤ 4294967296)))
    (.ret (.ret ((), ((d.1.1, (d.1.2.1, ((d.2.1.1.getD d.1.2.1.toNat tGone.zero).2.1.map spFDone, ()))), (d.2.1, (d.2.2.1, ())))))) .no
noncomputable def FzFullRep_4 (d : lozFullRep_4.st.den) : Tr (DenX lozFullRep_4.xs) :=
  .ite ((decide (d.1.1.length = 0) && decide (d.1.2.1 = 0)) && spLensRep d.2.1.1)
    (.ret (.ret ((), ((d.2.1.1.map spFGone, ()), (d.2.1, (d.2.2.1, ())))))) .no
noncomputable def lpzFullRep : Lp := lpT [(4, loHd lozFullRep_4 FzFullRep_4), (8, loHd lozFullRep_8 FzFullRep_8)]
noncomputable def stepzFullRep_8 {R : Type} (h11 : List tNode.den) (h12 : Int) (h13 : List tNode.den) (h14 : Int) (h15 : List tGone.den) (h16 : Int) (h17 : Int) (h18 : Int) (h19 : Bool) (h20 : List Int) (h21 : List tNode.den) (next : List tNode.den → Int → List tNode.den → Int → List tGone.den → Int → Int → Int → Bool → List Int → List tNode.den → Option R) (out : DenX lozFullRep_8.xs → Option R) : Option R := bif decide (0 ≤ h12) && decide (h12 < (↑h15.length : Int)) then bif decide (h14 < (↑(List.length (h15.getD h12.toNat ([], [], ())).snd.fst) : Int)) then bif decide (0 ≤ h12) && decide (h12 < (↑h15.length : Int)) then bif decide (0 ≤ h14) && decide (h14 < (↑(List.length (h15.getD h12.toNat ([], [], ())).snd.fst) : Int)) then bif decide (h13.length + 1 ≤ 4294967296) then next (h11) (h12) (h13 ++ [Tre.mk (10, 0, false, [], ()) [Tre.mk (3, IntKind.i64.wrap (List.getD (h15.getD h12.toNat ([], [], ())).snd.fst h14.toNat (0, 0, 0, 0, 0, ())).fst, false, [], ()) [], Tre.mk (2, IntKind.i64.wrap (List.getD (h15.getD h12.toNat ([], [], ())).snd.fst h14.toNat (0, 0, 0, 0, 0, ())).snd.fst, false, [], ()) [], Tre.mk (4, (List.getD (h15.getD h12.toNat ([], [], ())).snd.fst h14.toNat (0, 0, 0, 0, 0, ())).snd.snd.fst, false, [], ()) [], Tre.mk (4, (List.getD (h15.getD h12.toNat ([], [], ())).snd.fst h14.toNat (0, 0, 0, 0, 0, ())).snd.snd.snd.fst, false, [], ()) [], Tre.mk (4, (List.getD (h15.getD h12.toNat ([], [], ())).snd.fst h14.toNat (0, 0, 0, 0, 0, ())).snd.snd.snd.snd.fst, false, [], ()) []]]) (IntKind.i64.wrap (h14 + 1)) (h15) (h16) (h17) (h18) (h19) (h20) (h21) else none else none else none else out (.ret ((), ((h11, (h12, (h13, ()))), ((h15, (h16, ())), ((h17, (h18, (h19, (h20, (h21, ()))))), ()))))) else none
noncomputable def itzFullRep_8 (n : Nat) (h11 : List tNode.den) (h12 : Int) (h13 : List tNode.den) (h14 : Int) (h15 : List tGone.den) (h16 : Int) (h17 : Int) (h18 : Int) (h19 : Bool) (h20 : List Int) (h21 : List tNode.den) : Option (DenX lozFullRep_8.xs) := lpN tt hdzFullRep dr lpzFullRep 0 Go.Proofs.Tryz.f53 (subL Go.Proofs.Tryz.f53 (topL Go.Proofs.Tryz.f53 0) 0) n (lozFullRep_8.st.mk' ((h11, (h12, (h13, (h14, ())))), ((h15, (h16, ())), ((h17, (h18, (h19, (h20, (h21, ()))))), ())))) (decX lozFullRep_8.xs)
theorem slzFullRep_8 (n : Nat) (h11 : List tNode.den) (h12 : Int) (h13 : List tNode.den) (h14 : Int) (h15 : List tGone.den) (h16 : Int) (h17 : Int) (h18 : Int) (h19 : Bool) (h20 : List Int) (h21 : List tNode.den) : itzFullRep_8 (n + 1) h11 h12 h13 h14 h15 h16 h17 h18 h19 h20 h21 = stepzFullRep_8 h11 h12 h13 h14 h15 h16 h17 h18 h19 h20 h21 (itzFullRep_8 n) some := by kernel_rfl
noncomputable def stepzFullRep_4 {R : Type} (h2 : List tNode.den) (h3 : Int) (h4 : List tGone.den) (h5 : Int) (h6 : Int) (h7 : Int) (h8 : Bool) (h9 : List Int) (h10 : List tNode.den) (next : List tNode.den → Int → List tGone.den → Int → Int → Int → Bool → List Int → List tNode.den → Option R) (out : DenX lozFullRep_4.xs → Option R) : Option R := bif decide (h3 < (↑h4.length : Int)) then (FzFullRep_8 ((h2, (h3, ([], (0, ())))), ((h4, (h5, ())), ((h6, (h7, (h8, (h9, (h10, ()))))), ())))).run fun y => match y with | .ret ((), ((x43, x44, x45, ()), (x46, x47, ()), (x48, x49, x50, x51, x52, ()), ())) => (bif decide (0 ≤ x44) && decide (x44 < (↑x46.length : Int)) then bif decide (x43.length + 1 ≤ 4294967296) then next (x43 ++ [Tre.mk (10, 0, false, [], ()) [Tre.mk (5, 0, false, (x46.getD x44.toNat ([], [], ())).fst, ()) [], Tre.mk (9, 0, false, [], ()) x45]]) (IntKind.i64.wrap (x44 + 1)) (x46) (x47) (x48) (x49) (x50) (x51) (x52) else none else none) else out (.ret ((), ((h2, ()), ((h4, (h5, ())), ((h6, (h7, (h8, (h9, (h10, ()))))), ())))))
noncomputable def itzFullRep_4 (n : Nat) (h2 : List tNode.den) (h3 : Int) (h4 : List tGone.den) (h5 : Int) (h6 : Int) (h7 : Int) (h8 : Bool) (h9 : List Int) (h10 : List tNode.den) : Option (DenX lozFullRep_4.xs) := lpN tt hdzFullRep dr lpzFullRep 0 Go.Proofs.Tryz.f53 (topL Go.Proofs.Tryz.f53 0) n (lozFullRep_4.st.mk' ((h2, (h3, ())), ((h4, (h5, ())), ((h6, (h7, (h8, (h9, (h10, ()))))), ())))) (decX lozFullRep_4.xs)
theorem slzFullRep_4 (n : Nat) (h2 : List tNode.den) (h3 : Int) (h4 : List tGone.den) (h5 : Int) (h6 : Int) (h7 : Int) (h8 : Bool) (h9 : List Int) (h10 : List tNode.den) : itzFullRep_4 (n + 1) h2 h3 h4 h5 h6 h7 h8 h9 h10 = stepzFullRep_4 h2 h3 h4 h5 h6 h7 h8 h9 h10 (itzFullRep_4 n) some := by kernel_rfl
theorem loopzFullRep_8 {ts : List tGone.den} (hw : ∀ t ∈ ts, tGone.wf t) (hl : ts.length ≤ maxLen) {i : Nat} (hi : i < ts.length) (hp : (ts[i]).2.1.length ≤ 4294967296) (acc : List Nd) (th : Int) (a' b' : Int) (z' : Bool) (x' : List Int) (l' : List Nd) : ∀ (k j : Nat) (o : List Nd), (ts[i]).2.1.length < j + k → j ≤ (ts[i]).2.1.length → o.length ≤ j →
    itzFullRep_8 k acc i o j ts th a' b' z' x' l' = some (.ret ((), ((acc, ((i : Int), (o ++ ((ts[i]).2.1.drop j).map spFDone, ()))), ((ts, (th, ())), ((a', (b', (z', (x', (l', ()))))), ()))))) := by
  intro k
  induction k with
  | zero => intro j o h1 h2; omega
  | succ k ih =>
    intro j o h1 h2 h3
    rw [slzFullRep_8]
    unfold stepzFullRep_8
    refine (bif_true (by simp; omega) _ _).trans ?_
    have hti := hw _ (List.getElem_mem hi)
    simp only [Int.toNat_natCast, getD_lt hi]
    generalize ts[i] = t at hp h1 h2 ih hti ⊢
    by_cases hj : j < t.2.1.length
    · refine (bif_true (decide_eq_true (show (j : Int) < (t.2.1.length : Int) by omega)) _ _).trans ?_
      refine (bif_true (by simp; omega) _ _).trans ?_
      refine (bif_true (by simp; omega) _ _).trans ?_
      refine (bif_true (decide_eq_true (show o.length + 1 ≤ 4294967296 by omega)) _ _).trans ?_
      have hpw := hti.2.1.2 _ (List.getElem_mem hj)
      have ih' := ih (j + 1) (o ++ [spFDone t.2.1[j]]) (by omega) (by omega) (by simp; omega)
      have hd : t.2.1.drop j = t.2.1[j] :: t.2.1.drop (j + 1) := List.drop_eq_getElem_cons hj
      rw [hd, wrap_i64 (n := (j : Int) + 1) (by omega) (by omega)]
      have hgp : List.getD t.2.1 ((j : Int)).toNat tDone.zero = t.2.1[j] := by simp only [Int.toNat_natCast]; exact getD_lt hj

      refine Eq.trans ?_ (ih'.trans ?_)
      · refine congrArg (fun x => itzFullRep_8 k acc i (o ++ [x]) _ ts th a' b' z' x' l') ?_
        show ndRow [ndNum 3 (IntKind.i64.wrap (List.getD t.2.1 ((j : Int)).toNat tDone.zero).1), ndNum 2 (IntKind.i64.wrap (List.getD t.2.1 ((j : Int)).toNat tDone.zero).2.1), ndNum 4 (List.getD t.2.1 ((j : Int)).toNat tDone.zero).2.2.1, ndNum 4 (List.getD t.2.1 ((j : Int)).toNat tDone.zero).2.2.2.1, ndNum 4 (List.getD t.2.1 ((j : Int)).toNat tDone.zero).2.2.2.2.1] = _
        rw [hgp]
        exact spFDone_eq hpw
      · simp only [List.map_cons, List.append_assoc, List.singleton_append]
    · refine (bif_false (decide_eq_false (show ¬ (j : Int) < (t.2.1.length : Int) by omega)) _ _).trans ?_
      rw [List.drop_of_length_le (by omega)]
      simp
theorem loopzFullRep_4 {ts : List tGone.den} (hw : ∀ t ∈ ts, tGone.wf t) (hl : ts.length ≤ maxLen) (hs : spLensRep ts = true) (th : Int) (a' b' : Int) (z' : Bool) (x' : List Int) (l' : List Nd) : ∀ (k j : Nat) (o : List Nd), ts.length < j + k → j ≤ ts.length → o.length ≤ j →
    itzFullRep_4 k o j ts th a' b' z' x' l' = some (.ret ((), ((o ++ (ts.drop j).map spFGone, ()), ((ts, (th, ())), ((a', (b', (z', (x', (l', ()))))), ()))))) := by
  intro k
  have hs1 := (Bool.and_eq_true _ _ ▸ hs).1
  have hs2 := (Bool.and_eq_true _ _ ▸ hs).2
  have hs1 : ts.length ≤ 4294967296 := of_decide_eq_true hs1
  induction k with
  | zero => intro j o h1 h2; omega
  | succ k ih =>
    intro j o h1 h2 h3
    rw [slzFullRep_4]
    unfold stepzFullRep_4
    by_cases hj : j < ts.length
    · refine (bif_true (decide_eq_true (show (j : Int) < (ts.length : Int) by omega)) _ _).trans ?_
      have hgp : ts.getD ((j : Int)).toNat tGone.zero = ts[j] := by simp only [Int.toNat_natCast]; exact getD_lt hj
      have hpl : (ts[j]).2.1.length ≤ 4294967296 := of_decide_eq_true (List.all_eq_true.1 hs2 _ (List.getElem_mem hj))
      have c8 : ((decide ((0 : Int) ≤ (j : Int)) && decide ((j : Int) < (ts.length : Int))) && ((decide (([] : List Nd).length = 0) && decide ((0 : Int) = 0)) && decide ((ts.getD ((j : Int)).toNat tGone.zero).2.1.length ≤ 4294967296))) = true := by
        rw [hgp]; simp; omega
      refine (bif_true c8 _ _).trans ?_
      refine (bif_true (by simp; omega) _ _).trans ?_
      refine (bif_true (decide_eq_true (show o.length + 1 ≤ 4294967296 by omega)) _ _).trans ?_
      rw [wrap_i64 (n := (j : Int) + 1) (by omega) (by omega)]
      have ih' := ih (j + 1) (o ++ [spFGone ts[j]]) (by omega) (by omega) (by simp; omega)
      have hd : ts.drop j = ts[j] :: ts.drop (j + 1) := List.drop_eq_getElem_cons hj
      rw [hd]
      refine Eq.trans ?_ (ih'.trans ?_)
      · refine congrArg (fun x => itzFullRep_4 k (o ++ [x]) _ ts th a' b' z' x' l') ?_
        show (ndRow [ndText (ts.getD ((j : Int)).toNat tGone.zero).1, ndRows ((ts.getD ((j : Int)).toNat tGone.zero).2.1.map spFDone)]) = _
        rw [hgp]; rfl
      · simp only [List.map_cons, List.append_assoc, List.singleton_append]
    · refine (bif_false (decide_eq_false (show ¬ (j : Int) < (ts.length : Int) by omega)) _ _).trans ?_
      rw [List.drop_of_length_le (by omega)]
      simp
noncomputable def bodyzFullRep (a0 : List tGone.den) (a1 : Int) : Option iozFullRep.Res := (FzFullRep_4 (([], (0, ())), ((a0, (a1, ())), ((0, (0, (false, ([], ([], ()))))), ())))).run fun y => match y with | .ret ((), ((x70, ()), (x71, x72, ()), (x73, x74, x75, x76, x77, ()), ())) => (some (Out.ret ((Tre.mk (10, 0, false, [], ()) [Tre.mk (9, 0, false, [], ()) x70, Tre.mk (3, IntKind.i64.wrap x72, false, [], ()) []], ()), ())))
theorem runzFullRep (a0 : List tGone.den) (a1 : Int) : Io.run tt hdzFullRep dr lpzFullRep iozFullRep Go.Proofs.Tryz.f53 (((a0, a1, ()), ()), ()) = bodyzFullRep a0 a1 := by kernel_rfl
theorem okzFullRep : HcOk prog 53 (ioHd iozFullRep FzFullRep) := by
  refine fn_sound (n := 400) hm (cs := cszFullRep) (.cons oktNum (.cons oktNBytes (.cons oktRow (.cons oktText (.cons oktRows (.cons oktNText .nil)))))) (lp := lpzFullRep) (fn := Go.Proofs.Tryz.f53) (by kernel_rfl) (by kernel_rfl) (by kernel_rfl) iozFullRep (.step (h0 := loHd lozFullRep_4 FzFullRep_4) (by kernel_rfl) (loop_sound (n := 400) hm (cs := cszFullRep) (.cons oktNum (.cons oktNBytes (.cons oktRow (.cons oktText (.cons oktRows (.cons oktNText .nil)))))) (lp := lpzFullRep) (fn := Go.Proofs.Tryz.f53) (.step (h0 := loHd lozFullRep_8 FzFullRep_8) (by kernel_rfl) (loop_sound (n := 400) hm (cs := cszFullRep) (.cons oktNum (.cons oktNBytes (.cons oktRow (.cons oktText (.cons oktRows (.cons oktNText .nil)))))) (lp := lpzFullRep) (fn := Go.Proofs.Tryz.f53) (.done (by kernel_rfl)) lozFullRep_8 FzFullRep_8 ?_) (.done (by kernel_rfl))) lozFullRep_4 FzFullRep_4 ?_) (.done (by kernel_rfl))) FzFullRep ?_
  · rintro ⟨⟨(acc : List Nd), (i : Int), (o : List Nd), (j : Int), ⟨⟩⟩, ⟨⟨(ts : List tGone.den), (th : Int), ⟨⟩⟩, ⟨(a' : Int), (b' : Int), (z' : Bool), (x' : List Int), (l' : List Nd), ⟨⟩⟩, ⟨⟩⟩⟩ y hw hy
    obtain ⟨hg, hy⟩ := Tr.guard hy
    simp only [Bool.and_eq_true, decide_eq_true_eq] at hg
    obtain ⟨⟨h1, h2⟩, ⟨h3, h4⟩, h5⟩ := hg
    have h1 : 0 ≤ i := h1
    have h2 : i < (ts.length : Int) := h2
    have h3 : o = [] := List.eq_nil_of_length_eq_zero h3
    have h4 : j = 0 := h4
    obtain ⟨i, rfl⟩ := toNat_of h1
    subst h3
    subst h4
    have hi : i < ts.length := by omega
    have hgp : ts.getD ((i : Int)).toNat tGone.zero = ts[i] := by simp only [Int.toNat_natCast]; exact getD_lt hi
    have h5 : (ts.getD ((i : Int)).toNat tGone.zero).2.1.length ≤ 4294967296 := h5
    rw [hgp] at h5
    have hwt : ts.length ≤ maxLen ∧ ∀ t ∈ ts, tGone.wf t := by have := hw.2.1.1; exact this
    refine ⟨(ts[i]).2.1.length + 1, (loopzFullRep_8 hwt.2 hwt.1 hi h5 acc th a' b' z' x' l' ((ts[i]).2.1.length + 1) 0 [] (by omega) (by omega) (by simp)).trans ?_⟩
    rw [← hy, ← hgp, List.drop_zero]
    rfl
  · rintro ⟨⟨(o : List Nd), (j : Int), ⟨⟩⟩, ⟨⟨(ts : List tGone.den), (th : Int), ⟨⟩⟩, ⟨(a' : Int), (b' : Int), (z' : Bool), (x' : List Int), (l' : List Nd), ⟨⟩⟩, ⟨⟩⟩⟩ y hw hy
    obtain ⟨hg, hy⟩ := Tr.guard hy
    simp only [Bool.and_eq_true, decide_eq_true_eq] at hg
    obtain ⟨⟨h3, h4⟩, h5⟩ := hg
    have h3 : o = [] := List.eq_nil_of_length_eq_zero h3
    have h4 : j = 0 := h4
    have h5 : spLensRep ts = true := h5
    subst h3
    subst h4
    have hwt : ts.length ≤ maxLen ∧ ∀ t ∈ ts, tGone.wf t := by have := hw.2.1.1; exact this
    refine ⟨ts.length + 1, (loopzFullRep_4 hwt.2 hwt.1 h5 th a' b' z' x' l' (ts.length + 1) 0 [] (by omega) (by omega) (by simp)).trans ?_⟩
    rw [← hy, List.drop_zero]
    rfl
  · rintro ⟨⟨⟨(ts : List tGone.den), (th : Int), ⟨⟩⟩, ⟨⟩⟩, ⟨⟩⟩ out hw ho
    obtain ⟨hg, ho⟩ := Tr.guard ho
    have hg : spLensRep ts = true := hg
    cases ho
    refine (runzFullRep ts th).trans ?_
    unfold bodyzFullRep
    have c1 : ((decide (([] : List Nd).length = 0) && decide ((0 : Int) = 0)) && spLensRep ts) = true := by rw [hg]; rfl
    refine (bif_true c1 _ _).trans ?_
    show _ = some (Out.ret ((spFullRep (ts, (th, ())), ()), ()))
    unfold spFullRep
    have h1 : IntKind.i64.wrap th = th := i64_i32 hw.1.1.2.1
    show some (Out.ret ((ndRow [ndRows (ts.map spFGone), ndNum 3 (IntKind.i64.wrap th)], ()), ())) = _
    rw [h1]
/-! ### leat/leatref11.RepOf -/
noncomputable abbrev iozRepOf : Io := ⟨[dNode], [], [], [.dat tRep true false], none⟩
noncomputable def FzRepOf (d : iozRepOf.In) : Tr iozRepOf.Res := .ite (decide (spWt d.1.1 ≤ 4294967296)) (.ret (.ret ((spRepOf d.1.1, ()), ()))) .no
noncomputable abbrev cszRepOf : List (Nat × Hc) := [(89, ioHd iotAt FtAt), (88, ioHd iotNameOf FtNameOf), (90, ioHd iotBlobOf FtBlobOf)]
noncomputable def hdzRepOf : Hd := hdT cszRepOf
noncomputable abbrev lozRepOf_10 : Lo := ⟨⟨[.any, .any, .one (.ptr 2 0), .one (.ptr 3 0), .one (.hol (.sl 68 tNode)), .one (.hol (.int IntKind.i64)), .one (.ptr 6 0), .one (.hol (.sl 68 tNode)), .one (.hol (.int IntKind.i64)), .any, .any, .any, .any, .any, .any, .any, .any, .any, .any, .any, .any, .any, .any, .any, .any, .any, .any, .any, .any, .any, .any, .any, .any, .any, .any, .any, .any, .any, .any, .any, .any, .any, .any, .any, .any, .any, .any, .any, .any, .any, .any, .any, .any, .any, .any, .any, .any, .any, .any, .any, .any, .any, .any, .any, .any, .any, .any, .any, .any, .any, .any, .any, .any, .any, .any, .any, .any, .any, .any, .any, .any, .any], [none, none, some [.onl 103 tGone 1026, .hol (.int IntKind.i32)], some [.onl 103 tGone 1538, .hol (.int IntKind.i32)], none, none, some [.hol .str, .onl 105 tDone 3076]]⟩, [(.exit 2, ⟨[.any, .any, .one (.ptr 2 0), .one (.ptr 3 0), .one (.hol (.sl 68 tNode)), .one (.hol (.int IntKind.i64)), .one (.ptr 6 0), .any, .any, .any, .any, .any, .any, .any, .any, .any, .any, .any, .any, .any, .any, .any, .any, .any, .any, .any, .any, .any, .any, .any, .any, .any, .any, .any, .any, .any, .any, .any, .any, .any, .any, .any, .any, .any, .any, .any, .any, .any, .any, .any, .any, .any, .any, .any, .any, .any, .any, .any, .any, .any, .any, .any, .any, .any, .any, .any, .any, .any, .any, .any, .any, .any, .any, .any, .any, .any, .any, .any, .any, .any, .any, .any], [none, none, some [.onl 103 tGone 1026, .hol (.int IntKind.i32)], some [.onl 103 tGone 1538, .hol (.int IntKind.i32)], none, none, some [.hol .str, .onl 105 tDone 3076]]⟩)]⟩
-- FzRepOf_10 : lozRepOf_10.st.den → Tr (DenX lozRepOf_10.xs) | ((h7, (h8, (h9, (h10, ())))), ((h11, (h12, ())), ((h13, (h14, ())), ((h15, (h16, ())), ()))))
noncomputable abbrev lozRepOf_5 : Lo := ⟨⟨[.any, .any, .one (.ptr 2 0), .one (.ptr 3 0), .one (.hol (.sl 68 tNode)), .one (.hol (.int IntKind.i64)), .any, .any, .any, .any, .any, .any, .any, .any, .any, .any, .any, .any, .any, .any, .any, .any, .any, .any, .any, .any, .any, .any, .any, .any, .any, .any, .any, .any, .any, .any, .any, .any, .any, .any, .any, .any, .any, .any, .any, .any, .any, .any, .any, .any, .any, .any, .any, .any, .any, .any, .any, .any, .any, .any, .any, .any, .any, .any, .any, .any, .any, .any, .any, .any, .any, .any, .any, .any, .any, .any, .any, .any, .any, .any, .any, .any], [none, none, some [.onl 103 tGone 1026, .hol (.int IntKind.i32)], some [.onl 103 tGone 1538, .hol (.int IntKind.i32)]]⟩, [(.exit 0, ⟨[.any, .any, .one (.ptr 2 0), .one (.ptr 3 0), .any, .any, .any, .any, .any, .any, .any, .any, .any, .any, .any, .any, .any, .any, .any, .any, .any, .any, .any, .any, .any, .any, .any, .any, .any, .any, .any, .any, .any, .any, .any, .any, .any, .any, .any, .any, .any, .any, .any, .any, .any, .any, .any, .any, .any, .any, .any, .any, .any, .any, .any, .any, .any, .any, .any, .any, .any, .any, .any, .any, .any, .any, .any, .any, .any, .any, .any, .any, .any, .any, .any, .any, .any, .any, .any, .any, .any, .any], [none, none, some [.onl 103 tGone 1026, .hol (.int IntKind.i32)], some [.onl 103 tGone 1538, .hol (.int IntKind.i32)]]⟩)]⟩
-- FzRepOf_5 : lozRepOf_5.st.den → Tr (DenX lozRepOf_5.xs) | ((h1, (h2, ())), ((h3, (h4, ())), ((h5, (h6, ())), ())))
noncomputable def FzRepOf_10 (d : lozRepOf_10.st.den) : Tr (DenX lozRepOf_10.xs) :=
  .ite ((decide (d.1.2.2.2.1 = 0) && decide (d.2.2.2.1.2.1.length = 0)) && decide (spWts d.1.2.2.1 ≤ 4294967296))
    (.ret (.ret ((), ((d.1.1, (d.1.2.1, ())), (d.2.1, (d.2.2.1, ((d.2.2.2.1.1, (d.1.2.2.1.map spDoneOf, ())), ()))))))) .no
noncomputable def FzRepOf_5 (d : lozRepOf_5.st.den) : Tr (DenX lozRepOf_5.xs) :=
  .ite ((decide (d.1.2.1 = 0) && decide (d.2.2.1.1.length = 0)) && decide (spWts d.1.1 ≤ 4294967296))
    (.ret (.ret ((), ((), (d.2.1, ((d.1.1.map spGoneOf, (d.2.2.1.2.1, ())), ())))))) .no
noncomputable def lpzRepOf : Lp := lpT [(5, loHd lozRepOf_5 FzRepOf_5), (10, loHd lozRepOf_10 FzRepOf_10)]
noncomputable def stepzRepOf_10 {R : Type} (h7 : List (Nd)) (h8 : Int) (h9 : List (Nd)) (h10 : Int) (h11 : List tGone.den) (h12 : Int) (h13 : List tGone.den) (h14 : Int) (h15 : List Int) (h16 : List tDone.den) (next : List (Nd) → Int → List (Nd) → Int → List tGone.den → Int → List tGone.den → Int → List Int → List tDone.den → Option R) (out : DenX lozRepOf_10.xs → Option R) : Option R := bif decide (h10 < (↑h9.length : Int)) then bif decide (0 ≤ h10) && decide (h10 < (↑h9.length : Int)) then bif decide (h16.length + 1 ≤ 4294967296) then next (h7) (h8) (h9) (IntKind.i64.wrap (h10 + 1)) (h11) (h12) (h13) (h14) (h15) (h16 ++ [(IntKind.i32.wrap (spAt (Tre.mk (h9.getD h10.toNat (Tre.mk (0, 0, false, [], ()) [])).1 (h9.getD h10.toNat (Tre.mk (0, 0, false, [], ()) [])).2) 0).1.snd.fst, IntKind.i16.wrap (spAt (Tre.mk (h9.getD h10.toNat (Tre.mk (0, 0, false, [], ()) [])).1 (h9.getD h10.toNat (Tre.mk (0, 0, false, [], ()) [])).2) 1).1.snd.fst, (spAt (Tre.mk (h9.getD h10.toNat (Tre.mk (0, 0, false, [], ()) [])).1 (h9.getD h10.toNat (Tre.mk (0, 0, false, [], ()) [])).2) 2).1.snd.fst, (spAt (Tre.mk (h9.getD h10.toNat (Tre.mk (0, 0, false, [], ()) [])).1 (h9.getD h10.toNat (Tre.mk (0, 0, false, [], ()) [])).2) 3).1.snd.fst, (spAt (Tre.mk (h9.getD h10.toNat (Tre.mk (0, 0, false, [], ()) [])).1 (h9.getD h10.toNat (Tre.mk (0, 0, false, [], ()) [])).2) 4).1.snd.fst, ())]) else none else none else out (.ret ((), ((h7, (h8, ())), ((h11, (h12, ())), ((h13, (h14, ())), ((h15, (h16, ())), ()))))))
noncomputable def itzRepOf_10 (n : Nat) (h7 : List (Nd)) (h8 : Int) (h9 : List (Nd)) (h10 : Int) (h11 : List tGone.den) (h12 : Int) (h13 : List tGone.den) (h14 : Int) (h15 : List Int) (h16 : List tDone.den) : Option (DenX lozRepOf_10.xs) := lpN tt hdzRepOf dr lpzRepOf 0 Go.Proofs.Tryz.f52 (subL Go.Proofs.Tryz.f52 (topL Go.Proofs.Tryz.f52 0) 0) n (lozRepOf_10.st.mk' ((h7, (h8, (h9, (h10, ())))), ((h11, (h12, ())), ((h13, (h14, ())), ((h15, (h16, ())), ()))))) (decX lozRepOf_10.xs)
theorem slzRepOf_10 (n : Nat) (h7 : List (Nd)) (h8 : Int) (h9 : List (Nd)) (h10 : Int) (h11 : List tGone.den) (h12 : Int) (h13 : List tGone.den) (h14 : Int) (h15 : List Int) (h16 : List tDone.den) : itzRepOf_10 (n + 1) h7 h8 h9 h10 h11 h12 h13 h14 h15 h16 = stepzRepOf_10 h7 h8 h9 h10 h11 h12 h13 h14 h15 h16 (itzRepOf_10 n) some := by kernel_rfl
noncomputable def stepzRepOf_5 {R : Type} (h1 : List (Nd)) (h2 : Int) (h3 : List tGone.den) (h4 : Int) (h5 : List tGone.den) (h6 : Int) (next : List (Nd) → Int → List tGone.den → Int → List tGone.den → Int → Option R) (out : DenX lozRepOf_5.xs → Option R) : Option R := bif decide (h2 < (↑h1.length : Int)) then bif decide (0 ≤ h2) && decide (h2 < (↑h1.length : Int)) then bif decide (0 ≤ h2) && decide (h2 < (↑h1.length : Int)) then (FzRepOf_10 ((h1, (h2, ((spAt (Tre.mk (h1.getD h2.toNat (Tre.mk (0, 0, false, [], ()) [])).1 (h1.getD h2.toNat (Tre.mk (0, 0, false, [], ()) [])).2) 1).2, (0, ())))), ((h3, (h4, ())), ((h5, (h6, ())), (((spAt (Tre.mk (h1.getD h2.toNat (Tre.mk (0, 0, false, [], ()) [])).1 (h1.getD h2.toNat (Tre.mk (0, 0, false, [], ()) [])).2) 0).1.snd.snd.snd.fst, ([], ())), ()))))).run fun y => match y with | .ret ((), ((x35, x36, ()), (x37, x38, ()), (x39, x40, ()), (x41, x42, ()), ())) => (bif decide (x39.length + 1 ≤ 4294967296) then next (x35) (IntKind.i64.wrap (x36 + 1)) (x37) (x38) (x39 ++ [(x41, x42, ())]) (x40) else none) else none else none else out (.ret ((), ((), ((h3, (h4, ())), ((h5, (h6, ())), ())))))
noncomputable def itzRepOf_5 (n : Nat) (h1 : List (Nd)) (h2 : Int) (h3 : List tGone.den) (h4 : Int) (h5 : List tGone.den) (h6 : Int) : Option (DenX lozRepOf_5.xs) := lpN tt hdzRepOf dr lpzRepOf 0 Go.Proofs.Tryz.f52 (topL Go.Proofs.Tryz.f52 0) n (lozRepOf_5.st.mk' ((h1, (h2, ())), ((h3, (h4, ())), ((h5, (h6, ())), ())))) (decX lozRepOf_5.xs)
theorem slzRepOf_5 (n : Nat) (h1 : List (Nd)) (h2 : Int) (h3 : List tGone.den) (h4 : Int) (h5 : List tGone.den) (h6 : Int) : itzRepOf_5 (n + 1) h1 h2 h3 h4 h5 h6 = stepzRepOf_5 h1 h2 h3 h4 h5 h6 (itzRepOf_5 n) some := by kernel_rfl
theorem loopzRepOf_10 {ps : List Nd} (hb : spWts ps ≤ 4294967296) (tops : List Nd) (i : Int) (ts0 : List tGone.den) (th0 : Int) (ts : List tGone.den) (th : Int) (tn : List Int) : ∀ (k j : Nat) (o : List tDone.den), ps.length < j + k → j ≤ ps.length → o.length ≤ j →
    itzRepOf_10 k tops i ps j ts0 th0 ts th tn o = some (.ret ((), ((tops, (i, ())), ((ts0, (th0, ())), ((ts, (th, ())), ((tn, (o ++ (ps.drop j).map spDoneOf, ())), ())))))) := by
  intro k
  have hlen := spWts_len ps
  induction k with
  | zero => intro j o h1 h2; omega
  | succ k ih =>
    intro j o h1 h2 h3
    rw [slzRepOf_10]
    unfold stepzRepOf_10
    by_cases hj : j < ps.length
    · refine (bif_true (decide_eq_true (show (j : Int) < (ps.length : Int) by omega)) _ _).trans ?_
      have hmem := spWt_mem (List.getElem_mem hj)
      have ih' := ih (j + 1) (o ++ [spDoneOf ps[j]]) (by omega) (by omega) (by simp; omega)
      have hd : ps.drop j = ps[j] :: ps.drop (j + 1) := List.drop_eq_getElem_cons hj
      rw [hd, wrap_i64 (n := (j : Int) + 1) (by omega) (by omega)]
      simp only [Int.toNat_natCast, getD_lt hj]
      generalize ps[j] = u at hmem ih' ⊢
      obtain ⟨ul, uk⟩ := u
      refine (bif_true (by simp; omega) _ _).trans ?_
      refine (bif_true (decide_eq_true (show o.length + 1 ≤ 4294967296 by omega)) _ _).trans ?_
      refine ih'.trans ?_
      simp only [List.map_cons, List.append_assoc, List.singleton_append]
    · refine (bif_false (decide_eq_false (show ¬ (j : Int) < (ps.length : Int) by omega)) _ _).trans ?_
      rw [List.drop_of_length_le (by omega)]
      simp
theorem loopzRepOf_5 {nds : List Nd} (hb : spWts nds ≤ 4294967296) (ts0 : List tGone.den) (th0 : Int) (th : Int) : ∀ (k j : Nat) (ts : List tGone.den), nds.length < j + k → j ≤ nds.length → ts.length ≤ j →
    itzRepOf_5 k nds j ts0 th0 ts th = some (.ret ((), ((), ((ts0, (th0, ())), ((ts ++ (nds.drop j).map spGoneOf, (th, ())), ()))))) := by
  intro k
  have hlen := spWts_len nds
  induction k with
  | zero => intro j o h1 h2; omega
  | succ k ih =>
    intro j ts h1 h2 h3
    rw [slzRepOf_5]
    unfold stepzRepOf_5
    by_cases hj : j < nds.length
    · refine (bif_true (decide_eq_true (show (j : Int) < (nds.length : Int) by omega)) _ _).trans ?_
      have hmem := spWt_mem (List.getElem_mem hj)
      have ih' := ih (j + 1) (ts ++ [spGoneOf nds[j]]) (by omega) (by omega) (by simp; omega)
      have hd : nds.drop j = nds[j] :: nds.drop (j + 1) := List.drop_eq_getElem_cons hj
      rw [hd]
      simp only [Int.toNat_natCast, getD_lt hj]
      generalize nds[j] = u at hmem ih' ⊢
      obtain ⟨ul, uk⟩ := u
      refine (bif_true (by simp; omega) _ _).trans ?_
      refine (bif_true (by simp; omega) _ _).trans ?_
      have hw1 := spAt_wt (Tre.mk ul uk) 1
      have hw2 := spWts_kids (spAt (Tre.mk ul uk) 1)
      have cA : ((decide ((0 : Int) = 0) && decide (([] : List tDone.den).length = 0)) && decide (spWts (spAt (Tre.mk ul uk) 1).kids ≤ 4294967296)) = true := by simp; omega
      refine (bif_true cA _ _).trans ?_
      refine (bif_true (decide_eq_true (show ts.length + 1 ≤ 4294967296 by omega)) _ _).trans ?_
      rw [wrap_i64 (n := (j : Int) + 1) (by omega) (by omega)]
      refine ih'.trans ?_
      simp only [List.map_cons, List.append_assoc, List.singleton_append]
    · refine (bif_false (decide_eq_false (show ¬ (j : Int) < (nds.length : Int) by omega)) _ _).trans ?_
      rw [List.drop_of_length_le (by omega)]
      simp
noncomputable def bodyzRepOf (a0 : Nd) : Option iozRepOf.Res := (FzRepOf_5 (((spAt (Tre.mk a0.1 a0.2) 0).2, (0, ())), (([], (0, ())), (([], (IntKind.i32.wrap (spAt (Tre.mk a0.1 a0.2) 1).1.snd.fst, ())), ())))).run fun y => match y with | .ret ((), ((), (x53, x54, ()), (x55, x56, ()), ())) => (some (Out.ret (((x55, x56, ()), ()), ())))
theorem runzRepOf (a0 : Nd) : Io.run tt hdzRepOf dr lpzRepOf iozRepOf Go.Proofs.Tryz.f52 ((a0, ()), ()) = bodyzRepOf a0 := by kernel_rfl
theorem okzRepOf : HcOk prog 52 (ioHd iozRepOf FzRepOf) := by
  refine fn_sound (n := 400) hm (cs := cszRepOf) (.cons oktAt (.cons oktNameOf (.cons oktBlobOf .nil))) (lp := lpzRepOf) (fn := Go.Proofs.Tryz.f52) (by kernel_rfl) (by kernel_rfl) (by kernel_rfl) iozRepOf (.step (h0 := loHd lozRepOf_5 FzRepOf_5) (by kernel_rfl) (loop_sound (n := 400) hm (cs := cszRepOf) (.cons oktAt (.cons oktNameOf (.cons oktBlobOf .nil))) (lp := lpzRepOf) (fn := Go.Proofs.Tryz.f52) (.step (h0 := loHd lozRepOf_10 FzRepOf_10) (by kernel_rfl) (loop_sound (n := 400) hm (cs := cszRepOf) (.cons oktAt (.cons oktNameOf (.cons oktBlobOf .nil))) (lp := lpzRepOf) (fn := Go.Proofs.Tryz.f52) (.done (by kernel_rfl)) lozRepOf_10 FzRepOf_10 ?_) (.done (by kernel_rfl))) lozRepOf_5 FzRepOf_5 ?_) (.done (by kernel_rfl))) FzRepOf ?_
  · rintro ⟨⟨(tops : List Nd), (i : Int), (ps : List Nd), (j : Int), ⟨⟩⟩, ⟨⟨(ts0 : List tGone.den), (th0 : Int), ⟨⟩⟩, ⟨(ts : List tGone.den), (th : Int), ⟨⟩⟩, ⟨(tn : List Int), (o : List tDone.den), ⟨⟩⟩, ⟨⟩⟩⟩ y hw hy
    obtain ⟨hg, hy⟩ := Tr.guard hy
    simp only [Bool.and_eq_true, decide_eq_true_eq] at hg
    obtain ⟨⟨h1, h2⟩, h3⟩ := hg
    have h1 : j = 0 := h1
    have h2 : o = [] := List.eq_nil_of_length_eq_zero h2
    have h3 : spWts ps ≤ 4294967296 := h3
    subst h1
    subst h2
    refine ⟨ps.length + 1, (loopzRepOf_10 h3 tops i ts0 th0 ts th tn (ps.length + 1) 0 [] (by omega) (by omega) (by simp)).trans ?_⟩
    rw [← hy, List.drop_zero]
    rfl
  · rintro ⟨⟨(nds : List Nd), (j : Int), ⟨⟩⟩, ⟨⟨(ts0 : List tGone.den), (th0 : Int), ⟨⟩⟩, ⟨(ts : List tGone.den), (th : Int), ⟨⟩⟩, ⟨⟩⟩⟩ y hw hy
    obtain ⟨hg, hy⟩ := Tr.guard hy
    simp only [Bool.and_eq_true, decide_eq_true_eq] at hg
    obtain ⟨⟨h1, h2⟩, h3⟩ := hg
    have h1 : j = 0 := h1
    have h2 : ts = [] := List.eq_nil_of_length_eq_zero h2
    have h3 : spWts nds ≤ 4294967296 := h3
    subst h1
    subst h2
    refine ⟨nds.length + 1, (loopzRepOf_5 h3 ts0 th0 th (nds.length + 1) 0 [] (by omega) (by omega) (by simp)).trans ?_⟩
    rw [← hy, List.drop_zero]
    rfl
  · rintro ⟨⟨(n : Nd), ⟨⟩⟩, ⟨⟩⟩ out hw ho
    obtain ⟨hg, ho⟩ := Tr.guard ho
    have hg : spWt n ≤ 4294967296 := of_decide_eq_true hg
    cases ho
    refine (runzRepOf n).trans ?_
    unfold bodyzRepOf
    obtain ⟨nl, nk⟩ := n
    have hw1 := spAt_wt (Tre.mk nl nk) 0
    have hw2 := spWts_kids (spAt (Tre.mk nl nk) 0)
    have c1 : ((decide ((0 : Int) = 0) && decide (([] : List tGone.den).length = 0)) && decide (spWts (spAt (Tre.mk nl nk) 0).kids ≤ 4294967296)) = true := by simp; omega
    refine (bif_true c1 _ _).trans ?_
    show _ = some (Out.ret ((spRepOf (Tre.mk nl nk), ()), ()))
    unfold spRepOf
    rfl
end
end Go.Proofs.YtmlgepgcofmpeaaGreat.Sym

/- leatref11: a request, an answer as new memory, compared, written. -/
namespace Go.Proofs.YtmlgepgcofmpeaaGreat.Sym
open Go
set_option linter.unusedSimpArgs false
set_option linter.unusedVariables false
noncomputable section
theorem i32_id {n : Int} (h : inR .i32 n) : IntKind.i32.wrap n = n := by
  simp only [inR, IntKind.min, IntKind.max, IntKind.signed, IntKind.bits] at h
  exact wrap_id (by simp [inR, IntKind.min, IntKind.max, IntKind.signed, IntKind.bits]; simpa using h)
theorem i16_id {n : Int} (h : inR .i16 n) : IntKind.i16.wrap n = n := by
  simp only [inR, IntKind.min, IntKind.max, IntKind.signed, IntKind.bits] at h
  exact wrap_id (by simp [inR, IntKind.min, IntKind.max, IntKind.signed, IntKind.bits]; simpa using h)
theorem map_id_of {α : Type} {f : α → α} {l : List α} (h : ∀ x ∈ l, f x = x) : l.map f = l := by
  conv => rhs; rw [← List.map_id l]
  exact List.map_congr_left h
theorem spPartOf_full {p : tPart.den} (h : tPart.wf p) : spPartOf (spFPart p) = p := by
  obtain ⟨a, ⟨z, x, ⟨⟩⟩, ⟨⟩⟩ := p
  show (IntKind.i32.wrap a, _, _) = _
  rw [i32_id h.1]; rfl
theorem spTopicOf_full {t : tTopic.den} (h : tTopic.wf t) : spTopicOf (spFTopic t) = t := by
  obtain ⟨n, l, ⟨⟩⟩ := t
  show (n, ((l.map spFPart).map spPartOf, ())) = _
  rw [List.map_map, map_id_of (f := spPartOf ∘ spFPart) (l := l) fun p hp => spPartOf_full (h.2.1.2 p hp)]
theorem spReqOf_full {m : tReq.den} (h : tReq.wf m) : spReqOf (spFullReq m) = m := by
  obtain ⟨⟨z, s, ⟨⟩⟩, a, w, l, ⟨⟩⟩ := m
  unfold spReqOf spFullReq
  show ((z, (s, ())), (IntKind.i16.wrap a, (IntKind.i32.wrap w, ((l.map spFTopic).map spTopicOf, ())))) = _
  rw [i16_id (n := a) h.2.1, i32_id (n := w) h.2.2.1, List.map_map, map_id_of (f := spTopicOf ∘ spFTopic) (l := l) fun t ht => spTopicOf_full (h.2.2.2.1.2 t ht)]
theorem spDoneOf_full {p : tDone.den} (h : tDone.wf p) : spDoneOf (spFDone p) = p := by
  obtain ⟨a, b, c, d, e, ⟨⟩⟩ := p
  show (IntKind.i32.wrap a, (IntKind.i16.wrap b, _)) = _
  rw [i32_id h.1, i16_id h.2.1]; rfl
theorem spGoneOf_full {t : tGone.den} (h : tGone.wf t) : spGoneOf (spFGone t) = t := by
  obtain ⟨n, l, ⟨⟩⟩ := t
  show (n, ((l.map spFDone).map spDoneOf, ())) = _
  rw [List.map_map, map_id_of (f := spDoneOf ∘ spFDone) (l := l) fun p hp => spDoneOf_full (h.2.1.2 p hp)]
theorem spRepOf_full {m : tRep.den} (h : tRep.wf m) : spRepOf (spFullRep m) = m := by
  obtain ⟨l, w, ⟨⟩⟩ := m
  unfold spRepOf spFullRep
  show ((l.map spFGone).map spGoneOf, (IntKind.i32.wrap w, ())) = _
  rw [i32_id (n := w) h.2.1, List.map_map, map_id_of (f := spGoneOf ∘ spFGone) (l := l) fun t ht => spGoneOf_full (h.1.2 t ht)]
open Classical in
noncomputable def spEqT {α : Type} (a b : α) : Bool := if a = b then true else false
theorem spEqT_iff {α : Type} {a b : α} : spEqT a b = true ↔ a = b := by unfold spEqT; split <;> simp_all
/-! ### leat/leatref11.TwinReq -/
noncomputable abbrev iozTwinReq : Io := ⟨[.dat tReq true false], [], [], [.dat tReq true false], none⟩
noncomputable def FzTwinReq (d : iozTwinReq.In) : Tr iozTwinReq.Res := .ite (spLensReq d.1.1.2.2.2.1 && decide (spWt (spFullReq d.1.1) ≤ 4294967296)) (.ret (.ret ((d.1.1, ()), ()))) .no
noncomputable abbrev cszTwinReq : List (Nat × Hc) := [(34, ioHd iozFullReq FzFullReq), (33, ioHd iotTwin FtTwin), (32, ioHd iozReqOf FzReqOf)]
noncomputable def hdzTwinReq : Hd := hdT cszTwinReq
noncomputable def lpzTwinReq : Lp := lpT []

noncomputable def bodyzTwinReq (a0 : Bool) (a1 : List Int) (a2 : Int) (a3 : Int) (a4 : List tTopic.den) : Option iozTwinReq.Res := bif spLensReq a4 then bif decide (spWt (Tre.mk (spFullReq ((a0, a1, ()), a2, a3, a4, ())).1 (spFullReq ((a0, a1, ()), a2, a3, a4, ())).2) ≤ 4294967296) then bif decide (spWt (Tre.mk (spFullReq ((a0, a1, ()), a2, a3, a4, ())).1 (spFullReq ((a0, a1, ()), a2, a3, a4, ())).2) ≤ 4294967296) then some (Out.ret ((spReqOf (Tre.mk (spFullReq ((a0, a1, ()), a2, a3, a4, ())).1 (spFullReq ((a0, a1, ()), a2, a3, a4, ())).2), ()), ())) else none else none else none
theorem runzTwinReq (a0 : Bool) (a1 : List Int) (a2 : Int) (a3 : Int) (a4 : List tTopic.den) : Io.run tt hdzTwinReq dr lpzTwinReq iozTwinReq Go.Proofs.Tryz.f9 ((((a0, a1, ()), a2, a3, a4, ()), ()), ()) = bodyzTwinReq a0 a1 a2 a3 a4 := by kernel_rfl
theorem okzTwinReq : HcOk prog 9 (ioHd iozTwinReq FzTwinReq) := by
  refine fn_sound (n := 400) hm (cs := cszTwinReq) (.cons okzFullReq (.cons oktTwin (.cons okzReqOf .nil))) (lp := lpzTwinReq) (fn := Go.Proofs.Tryz.f9) (by kernel_rfl) (by kernel_rfl) (by kernel_rfl) iozTwinReq (.done (by kernel_rfl)) FzTwinReq ?_
  rintro ⟨⟨m, ⟨⟩⟩, ⟨⟩⟩ out hw ho
  obtain ⟨hg, ho⟩ := Tr.guard ho
  simp only [Bool.and_eq_true, decide_eq_true_eq] at hg
  obtain ⟨h1, h2⟩ := hg
  have h1 : spLensReq m.2.2.2.1 = true := h1
  have h2 : spWt (spFullReq m) ≤ 4294967296 := h2
  cases ho
  have hf := spReqOf_full (m := m) hw.1.1
  obtain ⟨⟨nz, ns, ⟨⟩⟩, ak, wt, ts, ⟨⟩⟩ := m
  refine (runzTwinReq nz ns ak wt ts).trans ?_
  unfold bodyzTwinReq
  generalize spFullReq ((nz, (ns, ())), (ak, (wt, (ts, ())))) = n at h2 hf ⊢
  obtain ⟨nl, nk⟩ := n
  refine (bif_true h1 _ _).trans ?_
  refine (bif_true (decide_eq_true h2) _ _).trans ?_
  refine (bif_true (decide_eq_true h2) _ _).trans ?_
  exact congrArg (fun x => some (Out.ret ((x, ()), ()))) hf
/-! ### leat/leatref11.AlikeReq -/
noncomputable abbrev iozAlikeReq : Io := ⟨[.dat tReq true false, .dat tReq true false], [], [], [dB], none⟩
noncomputable def FzAlikeReq (d : iozAlikeReq.In) : Tr iozAlikeReq.Res := .ite (spLensReq d.1.1.2.2.2.1 && spLensReq d.1.2.1.2.2.2.1) (.ret (.ret ((spEqT d.1.1 d.1.2.1, ()), ()))) .no
noncomputable abbrev cszAlikeReq : List (Nat × Hc) := [(34, ioHd iozFullReq FzFullReq), (49, ioHd iotAlike FtAlike)]
noncomputable def hdzAlikeReq : Hd := hdT cszAlikeReq
noncomputable def lpzAlikeReq : Lp := lpT []

noncomputable def bodyzAlikeReq (a0 : Bool) (a1 : List Int) (a2 : Int) (a3 : Int) (a4 : List tTopic.den) (a5 : Bool) (a6 : List Int) (a7 : Int) (a8 : Int) (a9 : List tTopic.den) : Option iozAlikeReq.Res := bif spLensReq a4 then bif spLensReq a9 then some (Out.ret ((spEqN (Tre.mk (spFullReq ((a0, a1, ()), a2, a3, a4, ())).1 (spFullReq ((a0, a1, ()), a2, a3, a4, ())).2) (Tre.mk (spFullReq ((a5, a6, ()), a7, a8, a9, ())).1 (spFullReq ((a5, a6, ()), a7, a8, a9, ())).2), ()), ())) else none else none
theorem runzAlikeReq (a0 : Bool) (a1 : List Int) (a2 : Int) (a3 : Int) (a4 : List tTopic.den) (a5 : Bool) (a6 : List Int) (a7 : Int) (a8 : Int) (a9 : List tTopic.den) : Io.run tt hdzAlikeReq dr lpzAlikeReq iozAlikeReq Go.Proofs.Tryz.f12 ((((a0, a1, ()), a2, a3, a4, ()), ((a5, a6, ()), a7, a8, a9, ()), ()), ()) = bodyzAlikeReq a0 a1 a2 a3 a4 a5 a6 a7 a8 a9 := by kernel_rfl
theorem okzAlikeReq : HcOk prog 12 (ioHd iozAlikeReq FzAlikeReq) := by
  refine fn_sound (n := 400) hm (cs := cszAlikeReq) (.cons okzFullReq (.cons oktAlike .nil)) (lp := lpzAlikeReq) (fn := Go.Proofs.Tryz.f12) (by kernel_rfl) (by kernel_rfl) (by kernel_rfl) iozAlikeReq (.done (by kernel_rfl)) FzAlikeReq ?_
  rintro ⟨⟨a, b, ⟨⟩⟩, ⟨⟩⟩ out hw ho
  obtain ⟨hg, ho⟩ := Tr.guard ho
  simp only [Bool.and_eq_true] at hg
  obtain ⟨h1, h2⟩ := hg
  have h1 : spLensReq a.2.2.2.1 = true := h1
  have h2 : spLensReq b.2.2.2.1 = true := h2
  cases ho
  have hf := spReqOf_full (m := a) hw.1.1
  have hf' := spReqOf_full (m := b) hw.1.2.1
  have key : spEqN (spFullReq a) (spFullReq b) = spEqT a b := by
    rw [Bool.eq_iff_iff, spEqN_iff, spEqT_iff]
    exact ⟨fun h => by rw [← hf, ← hf', h], fun h => by rw [h]⟩
  obtain ⟨⟨nzA, nsA, ⟨⟩⟩, akA, wtA, tsA, ⟨⟩⟩ := a
  obtain ⟨⟨nzB, nsB, ⟨⟩⟩, akB, wtB, tsB, ⟨⟩⟩ := b
  refine (runzAlikeReq nzA nsA akA wtA tsA nzB nsB akB wtB tsB).trans ?_
  unfold bodyzAlikeReq
  generalize spFullReq ((nzA, (nsA, ())), (akA, (wtA, (tsA, ())))) = n at key ⊢
  generalize spFullReq ((nzB, (nsB, ())), (akB, (wtB, (tsB, ())))) = n' at key ⊢
  obtain ⟨nl, nk⟩ := n
  obtain ⟨nl', nk'⟩ := n'
  refine (bif_true h1 _ _).trans ?_
  refine (bif_true h2 _ _).trans ?_
  exact congrArg (fun x => some (Out.ret ((x, ()), ()))) key
/-! ### leat/leatref11.EncodeReq -/
noncomputable abbrev iozEncReq : Io := ⟨[dI, .dat tReq true false], [], [], [dL, dI], none⟩
@[irreducible] noncomputable def spEReq (v : Int) (m : tReq.den) : List Int × Int := spEW 0 false v (spFullReq m)
noncomputable def FzEncReq (d : iozEncReq.In) : Tr iozEncReq.Res := .ite (spLensReq d.1.2.1.2.2.2.1 && decide (8 * spWt (spFullReq d.1.2.1) ≤ 4294967296)) (.ret (.ret (((spEReq d.1.1 d.1.2.1).1, ((spEReq d.1.1 d.1.2.1).2, ())), ()))) .no
noncomputable abbrev cszEncReq : List (Nat × Hc) := [(34, ioHd iozFullReq FzFullReq), (35, ioHd iotbEW FtbEW)]
noncomputable def hdzEncReq : Hd := hdT cszEncReq
noncomputable def lpzEncReq : Lp := lpT []

noncomputable def bodyzEncReq (a0 : Int) (a1 : Bool) (a2 : List Int) (a3 : Int) (a4 : Int) (a5 : List tTopic.den) : Option iozEncReq.Res := bif spLensReq a5 then bif decide (8 * spWt (Tre.mk (spFullReq ((a1, a2, ()), a3, a4, a5, ())).1 (spFullReq ((a1, a2, ()), a3, a4, a5, ())).2) ≤ 4294967296) then some (Out.ret (((spEW 0 false a0 (Tre.mk (spFullReq ((a1, a2, ()), a3, a4, a5, ())).1 (spFullReq ((a1, a2, ()), a3, a4, a5, ())).2)).fst, (spEW 0 false a0 (Tre.mk (spFullReq ((a1, a2, ()), a3, a4, a5, ())).1 (spFullReq ((a1, a2, ()), a3, a4, a5, ())).2)).snd, ()), ())) else none else none
theorem runzEncReq (a0 : Int) (a1 : Bool) (a2 : List Int) (a3 : Int) (a4 : Int) (a5 : List tTopic.den) : Io.run tt hdzEncReq dr lpzEncReq iozEncReq Go.Proofs.Tryz.f10 ((a0, ((a1, a2, ()), a3, a4, a5, ()), ()), ()) = bodyzEncReq a0 a1 a2 a3 a4 a5 := by kernel_rfl
theorem okzEncReq : HcOk prog 10 (ioHd iozEncReq FzEncReq) := by
  refine fn_sound (n := 400) hm (cs := cszEncReq) (.cons okzFullReq (.cons oktbEW .nil)) (lp := lpzEncReq) (fn := Go.Proofs.Tryz.f10) (by kernel_rfl) (by kernel_rfl) (by kernel_rfl) iozEncReq (.done (by kernel_rfl)) FzEncReq ?_
  rintro ⟨⟨(v : Int), m, ⟨⟩⟩, ⟨⟩⟩ out hw ho
  obtain ⟨hg, ho⟩ := Tr.guard ho
  simp only [Bool.and_eq_true, decide_eq_true_eq] at hg
  obtain ⟨h1, h2⟩ := hg
  have h1 : spLensReq m.2.2.2.1 = true := h1
  have h2 : 8 * spWt (spFullReq m) ≤ 4294967296 := h2
  cases ho
  show _ = some (Out.ret (((spEReq v m).1, ((spEReq v m).2, ())), ()))
  unfold spEReq
  obtain ⟨⟨nz, ns, ⟨⟩⟩, ak, wt, ts, ⟨⟩⟩ := m
  refine (runzEncReq v nz ns ak wt ts).trans ?_
  unfold bodyzEncReq
  generalize spFullReq ((nz, (ns, ())), (ak, (wt, (ts, ())))) = n at h2 ⊢
  obtain ⟨nl, nk⟩ := n
  refine (bif_true h1 _ _).trans ?_
  exact bif_true (decide_eq_true h2) _ _
/-! ### leat/leatref11.TwinRep -/
noncomputable abbrev iozTwinRep : Io := ⟨[.dat tRep true false], [], [], [.dat tRep true false], none⟩
noncomputable def FzTwinRep (d : iozTwinRep.In) : Tr iozTwinRep.Res := .ite (spLensRep d.1.1.1 && decide (spWt (spFullRep d.1.1) ≤ 4294967296)) (.ret (.ret ((d.1.1, ()), ()))) .no
noncomputable abbrev cszTwinRep : List (Nat × Hc) := [(53, ioHd iozFullRep FzFullRep), (33, ioHd iotTwin FtTwin), (52, ioHd iozRepOf FzRepOf)]
noncomputable def hdzTwinRep : Hd := hdT cszTwinRep
noncomputable def lpzTwinRep : Lp := lpT []

noncomputable def bodyzTwinRep (a0 : List tGone.den) (a1 : Int) : Option iozTwinRep.Res := bif spLensRep a0 then bif decide (spWt (Tre.mk (spFullRep (a0, a1, ())).1 (spFullRep (a0, a1, ())).2) ≤ 4294967296) then bif decide (spWt (Tre.mk (spFullRep (a0, a1, ())).1 (spFullRep (a0, a1, ())).2) ≤ 4294967296) then some (Out.ret ((spRepOf (Tre.mk (spFullRep (a0, a1, ())).1 (spFullRep (a0, a1, ())).2), ()), ())) else none else none else none
theorem runzTwinRep (a0 : List tGone.den) (a1 : Int) : Io.run tt hdzTwinRep dr lpzTwinRep iozTwinRep Go.Proofs.Tryz.f14 (((a0, a1, ()), ()), ()) = bodyzTwinRep a0 a1 := by kernel_rfl
theorem okzTwinRep : HcOk prog 14 (ioHd iozTwinRep FzTwinRep) := by
  refine fn_sound (n := 400) hm (cs := cszTwinRep) (.cons okzFullRep (.cons oktTwin (.cons okzRepOf .nil))) (lp := lpzTwinRep) (fn := Go.Proofs.Tryz.f14) (by kernel_rfl) (by kernel_rfl) (by kernel_rfl) iozTwinRep (.done (by kernel_rfl)) FzTwinRep ?_
  rintro ⟨⟨m, ⟨⟩⟩, ⟨⟩⟩ out hw ho
  obtain ⟨hg, ho⟩ := Tr.guard ho
  simp only [Bool.and_eq_true, decide_eq_true_eq] at hg
  obtain ⟨h1, h2⟩ := hg
  have h1 : spLensRep m.1 = true := h1
  have h2 : spWt (spFullRep m) ≤ 4294967296 := h2
  cases ho
  have hf := spRepOf_full (m := m) hw.1.1
  obtain ⟨ts, th, ⟨⟩⟩ := m
  refine (runzTwinRep ts th).trans ?_
  unfold bodyzTwinRep
  generalize spFullRep (ts, (th, ())) = n at h2 hf ⊢
  obtain ⟨nl, nk⟩ := n
  refine (bif_true h1 _ _).trans ?_
  refine (bif_true (decide_eq_true h2) _ _).trans ?_
  refine (bif_true (decide_eq_true h2) _ _).trans ?_
  exact congrArg (fun x => some (Out.ret ((x, ()), ()))) hf
/-! ### leat/leatref11.AlikeRep -/
noncomputable abbrev iozAlikeRep : Io := ⟨[.dat tRep true false, .dat tRep true false], [], [], [dB], none⟩
noncomputable def FzAlikeRep (d : iozAlikeRep.In) : Tr iozAlikeRep.Res := .ite (spLensRep d.1.1.1 && spLensRep d.1.2.1.1) (.ret (.ret ((spEqT d.1.1 d.1.2.1, ()), ()))) .no
noncomputable abbrev cszAlikeRep : List (Nat × Hc) := [(53, ioHd iozFullRep FzFullRep), (49, ioHd iotAlike FtAlike)]
noncomputable def hdzAlikeRep : Hd := hdT cszAlikeRep
noncomputable def lpzAlikeRep : Lp := lpT []

noncomputable def bodyzAlikeRep (a0 : List tGone.den) (a1 : Int) (a2 : List tGone.den) (a3 : Int) : Option iozAlikeRep.Res := bif spLensRep a0 then bif spLensRep a2 then some (Out.ret ((spEqN (Tre.mk (spFullRep (a0, a1, ())).1 (spFullRep (a0, a1, ())).2) (Tre.mk (spFullRep (a2, a3, ())).1 (spFullRep (a2, a3, ())).2), ()), ())) else none else none
theorem runzAlikeRep (a0 : List tGone.den) (a1 : Int) (a2 : List tGone.den) (a3 : Int) : Io.run tt hdzAlikeRep dr lpzAlikeRep iozAlikeRep Go.Proofs.Tryz.f17 (((a0, a1, ()), (a2, a3, ()), ()), ()) = bodyzAlikeRep a0 a1 a2 a3 := by kernel_rfl
theorem okzAlikeRep : HcOk prog 17 (ioHd iozAlikeRep FzAlikeRep) := by
  refine fn_sound (n := 400) hm (cs := cszAlikeRep) (.cons okzFullRep (.cons oktAlike .nil)) (lp := lpzAlikeRep) (fn := Go.Proofs.Tryz.f17) (by kernel_rfl) (by kernel_rfl) (by kernel_rfl) iozAlikeRep (.done (by kernel_rfl)) FzAlikeRep ?_
  rintro ⟨⟨a, b, ⟨⟩⟩, ⟨⟩⟩ out hw ho
  obtain ⟨hg, ho⟩ := Tr.guard ho
  simp only [Bool.and_eq_true] at hg
  obtain ⟨h1, h2⟩ := hg
  have h1 : spLensRep a.1 = true := h1
  have h2 : spLensRep b.1 = true := h2
  cases ho
  have hf := spRepOf_full (m := a) hw.1.1
  have hf' := spRepOf_full (m := b) hw.1.2.1
  have key : spEqN (spFullRep a) (spFullRep b) = spEqT a b := by
    rw [Bool.eq_iff_iff, spEqN_iff, spEqT_iff]
    exact ⟨fun h => by rw [← hf, ← hf', h], fun h => by rw [h]⟩
  obtain ⟨tsA, thA, ⟨⟩⟩ := a
  obtain ⟨tsB, thB, ⟨⟩⟩ := b
  refine (runzAlikeRep tsA thA tsB thB).trans ?_
  unfold bodyzAlikeRep
  generalize spFullRep (tsA, (thA, ())) = n at key ⊢
  generalize spFullRep (tsB, (thB, ())) = n' at key ⊢
  obtain ⟨nl, nk⟩ := n
  obtain ⟨nl', nk'⟩ := n'
  refine (bif_true h1 _ _).trans ?_
  refine (bif_true h2 _ _).trans ?_
  exact congrArg (fun x => some (Out.ret ((x, ()), ()))) key
/-! ### leat/leatref11.EncodeRep -/
noncomputable abbrev iozEncRep : Io := ⟨[dI, .dat tRep true false], [], [], [dL, dI], none⟩
@[irreducible] noncomputable def spERep (v : Int) (m : tRep.den) : List Int × Int := spEW 0 true v (spFullRep m)
noncomputable def FzEncRep (d : iozEncRep.In) : Tr iozEncRep.Res := .ite (spLensRep d.1.2.1.1 && decide (8 * spWt (spFullRep d.1.2.1) ≤ 4294967296)) (.ret (.ret (((spERep d.1.1 d.1.2.1).1, ((spERep d.1.1 d.1.2.1).2, ())), ()))) .no
noncomputable abbrev cszEncRep : List (Nat × Hc) := [(53, ioHd iozFullRep FzFullRep), (35, ioHd iotbEW FtbEW)]
noncomputable def hdzEncRep : Hd := hdT cszEncRep
noncomputable def lpzEncRep : Lp := lpT []

noncomputable def bodyzEncRep (a0 : Int) (a1 : List tGone.den) (a2 : Int) : Option iozEncRep.Res := bif spLensRep a1 then bif decide (8 * spWt (Tre.mk (spFullRep (a1, a2, ())).1 (spFullRep (a1, a2, ())).2) ≤ 4294967296) then some (Out.ret (((spEW 0 true a0 (Tre.mk (spFullRep (a1, a2, ())).1 (spFullRep (a1, a2, ())).2)).fst, (spEW 0 true a0 (Tre.mk (spFullRep (a1, a2, ())).1 (spFullRep (a1, a2, ())).2)).snd, ()), ())) else none else none
theorem runzEncRep (a0 : Int) (a1 : List tGone.den) (a2 : Int) : Io.run tt hdzEncRep dr lpzEncRep iozEncRep Go.Proofs.Tryz.f15 ((a0, (a1, a2, ()), ()), ()) = bodyzEncRep a0 a1 a2 := by kernel_rfl
theorem okzEncRep : HcOk prog 15 (ioHd iozEncRep FzEncRep) := by
  refine fn_sound (n := 400) hm (cs := cszEncRep) (.cons okzFullRep (.cons oktbEW .nil)) (lp := lpzEncRep) (fn := Go.Proofs.Tryz.f15) (by kernel_rfl) (by kernel_rfl) (by kernel_rfl) iozEncRep (.done (by kernel_rfl)) FzEncRep ?_
  rintro ⟨⟨(v : Int), m, ⟨⟩⟩, ⟨⟩⟩ out hw ho
  obtain ⟨hg, ho⟩ := Tr.guard ho
  simp only [Bool.and_eq_true, decide_eq_true_eq] at hg
  obtain ⟨h1, h2⟩ := hg
  have h1 : spLensRep m.1 = true := h1
  have h2 : 8 * spWt (spFullRep m) ≤ 4294967296 := h2
  cases ho
  show _ = some (Out.ret (((spERep v m).1, ((spERep v m).2, ())), ()))
  unfold spERep
  obtain ⟨ts, th, ⟨⟩⟩ := m
  refine (runzEncRep v ts th).trans ?_
  unfold bodyzEncRep
  generalize spFullRep (ts, (th, ())) = n at h2 ⊢
  obtain ⟨nl, nk⟩ := n
  refine (bif_true h1 _ _).trans ?_
  exact bif_true (decide_eq_true h2) _ _
end
end Go.Proofs.YtmlgepgcofmpeaaGreat.Sym

/- What a whole tree writes, by its table: the reference's EncodeWhole at once; and the writer that keeps its first error and tells at the end that the room was too small. -/
namespace Go.Proofs.YtmlgepgcofmpeaaGreat.Sym
open Go
set_option linter.unusedSimpArgs false
set_option linter.unusedVariables false
noncomputable section

noncomputable def spSeq (a b : List Int × Int) : List Int × Int := if a.2 ≠ 0 then ([], a.2) else if b.2 ≠ 0 then ([], b.2) else (a.1 ++ b.1, 0)
mutual
noncomputable def spW (f : Fd) (v : Int) : Nd → List Int × Int
  | .mk a ks => if f.lab.2.1 = 9 then (if 16 < ks.length then ([], 9) else spSeq (spBE ks.length 4, 0) (spWItems (f.kids.headD f) v ks)) else if f.lab.2.1 = 10 then spWZip v f.kids ks else spVal f v (.mk a ks)
termination_by n => (SizeOf.sizeOf n, 0)
noncomputable def spWItems (f : Fd) (v : Int) : List Nd → List Int × Int
  | [] => ([], 0)
  | k :: ks => spSeq (spW f v k) (spWItems f v ks)
termination_by l => (SizeOf.sizeOf l, 0)
noncomputable def spWZip (v : Int) : List Fd → List Nd → List Int × Int
  | f :: fs, k :: ks => if spHas f v = true then spSeq (spW f v k) (spWZip v fs ks) else spWZip v fs ks
  | _, _ => ([], 0)
termination_by fs l => (SizeOf.sizeOf l, 0)
end
mutual
/-- A place for each field. -/
def spWhole (f : Fd) : Nd → Prop
  | .mk a ks => (f.lab.2.1 = 9 → spWholes (f.kids.headD f) ks) ∧ (f.lab.2.1 = 10 → ks.length = f.kids.length ∧ spWholeZ f.kids ks)
termination_by n => (SizeOf.sizeOf n, 0)
def spWholes (f : Fd) : List Nd → Prop
  | [] => True
  | k :: ks => spWhole f k ∧ spWholes f ks
termination_by l => (SizeOf.sizeOf l, 0)
def spWholeZ : List Fd → List Nd → Prop
  | f :: fs, k :: ks => spWhole f k ∧ spWholeZ fs ks
  | _, _ => True
termination_by fs l => (SizeOf.sizeOf l, 0)
end
theorem spWZip_nl (v : Int) (l : List Nd) : spWZip v [] l = ([], 0) := by rw [spWZip]; simp
theorem spVZip_nl (v : Int) (l : List Nd) : spVZip v [] l = ([], 0) := by rw [spVZip]; simp
theorem spCItems_len (f : Fd) (v : Int) : ∀ ks : List Nd, (spCItems f v ks).1.length = ks.length
  | [] => by rw [spCItems]
  | k :: ks => by rw [spCItems, List.length_cons, List.length_cons, spCItems_len f v ks]
theorem spHere_cons (f : Fd) (fs : List Fd) (v : Int) : spHere (f :: fs) v = if spHas f v = true then f :: spHere fs v else spHere fs v := by
  unfold spHere; rw [List.filter_cons]
theorem spCZip_len (v : Int) : ∀ (fs : List Fd) (ks : List Nd), ks.length = fs.length → (spCZip v fs ks).1.length = (spHere fs v).length
  | [], ks, _ => by rw [spCZip_nl]; rfl
  | f :: fs, [], h => by simp at h
  | f :: fs, k :: ks, h => by
    have ih := spCZip_len v fs ks (by simpa using h)
    rw [spCZip, spHere_cons]
    split
    · rw [List.length_cons, List.length_cons, ih]
    · exact ih
theorem spSh_row (k : Int) (l : List Nd) (h : 8 < k) : spShN k (Tre.mk (k, (0, (false, (([] : List Int), ())))) l) = true := by
  unfold spShN
  simp; omega
theorem spW_cut (v : Int) : ∀ (N : Nat) (f : Fd) (n : Nd), spWt n ≤ N → spWhole f n → spVal f v (spCut f v n).1 = spW f v n := by
  intro N
  induction N with
  | zero => intro f n h; have := spWt_pos n; omega
  | succ N ih =>
    rintro f ⟨a, ks⟩ h hw
    rw [spWt_eq] at h
    have hks : ∀ k ∈ ks, spWt k ≤ N := fun k hk => by have := spWt_mem hk; simp only at h; omega
    rw [spWhole] at hw
    rw [spCut, spW]
    have hi : ∀ (f : Fd) (l : List Nd), (∀ k ∈ l, spWt k ≤ N) → spWholes f l → spVItems f v (spCItems f v l).1 = spWItems f v l := by
      intro f l
      induction l with
      | nil => intro _ _; rw [spCItems, spVItems, spWItems]
      | cons k l ihl =>
        intro hk hw
        rw [spWholes] at hw
        rw [spCItems, spVItems, spWItems, ih f k (hk k (by simp)) hw.1, ihl (fun k' hk' => hk k' (List.mem_cons_of_mem _ hk')) hw.2]
        rfl
    have hz : ∀ (l : List Nd) (fs : List Fd), (∀ k ∈ l, spWt k ≤ N) → l.length = fs.length → spWholeZ fs l → spVZip v (spHere fs v) (spCZip v fs l).1 = spWZip v fs l := by
      intro l
      induction l with
      | nil =>
        intro fs _ hl _
        cases fs with
        | nil => rw [spCZip_nl, spWZip_nl]; exact spVZip_nl _ _
        | cons f fs => simp at hl
      | cons k l ihl =>
        intro fs hk hl hw
        cases fs with
        | nil => simp at hl
        | cons f fs =>
          rw [spWholeZ] at hw
          have ih2 := ihl fs (fun k' hk' => hk k' (List.mem_cons_of_mem _ hk')) (by simpa using hl) hw.2
          rw [spCZip, spWZip, spHere_cons]
          by_cases hh : spHas f v = true
          · rw [if_pos hh, if_pos hh, if_pos hh, spVZip, ih f k (hk k (by simp)) hw.1, ih2]
            rfl
          · rw [if_neg hh, if_neg hh, if_neg hh]
            exact ih2
    by_cases h9 : f.lab.2.1 = 9
    · rw [if_pos h9, if_pos h9, spVal, h9, spSh_row 9 _ (by omega)]
      rw [if_neg (by decide), if_neg (by decide), if_pos rfl, spCItems_len, hi _ ks hks (hw.1 h9)]
      split
      · rfl
      · unfold spSeq; simp
    · rw [if_neg h9, if_neg h9]
      by_cases h10 : f.lab.2.1 = 10
      · rw [if_pos h10, if_pos h10, spVal, h10, spSh_row 10 _ (by omega)]
        rw [if_neg (by decide), if_neg (by decide), if_neg (by decide), if_pos rfl, spVParts, spCZip_len v _ _ (hw.2 h10).1, if_neg (by simp), hz ks _ hks (hw.2 h10).1 (hw.2 h10).2]
      · rw [if_neg h10, if_neg h10]
/-- The reference's answer for a whole tree. -/
theorem spEW_eq {k : Int} {r : Bool} {v : Int} {t : List Fd} {ks : List Nd} (ht : spTab k r = (t, 0)) (hc : spChk t = 0) (hl : ks.length = t.length) (hw : spWholeZ t ks) :
    spEW k r v (ndRow ks) = if v < 0 ∨ 3 < v then ([], 8) else if (spCZip v t ks).2 = false then ([], 7) else if (spWZip v t ks).2 ≠ 0 then ([], (spWZip v t ks).2) else if 130048 < (spWZip v t ks).1.length then ([], 4) else ((spWZip v t ks).1, 0) := by
  have hd : spWhole (Tre.mk (([] : List Int), ((10 : Int), ((0 : Int), ((0 : Int), ())))) t) (ndRow ks) := by
    rw [spWhole]
    exact ⟨fun h => absurd (show (10 : Int) = 9 from h) (by decide), fun _ => ⟨hl, hw⟩⟩
  have hcut := spW_cut v _ _ _ (Nat.le_refl _) hd
  have ecut : spCut (Tre.mk (([] : List Int), ((10 : Int), ((0 : Int), ((0 : Int), ())))) t) v (ndRow ks) = (ndRow (spCZip v t ks).1, (spCZip v t ks).2) := by
    rw [spCut]; exact (if_neg (show ¬ ((10 : Int) = 9) by decide)).trans (if_pos rfl)
  have eW : spW (Tre.mk (([] : List Int), ((10 : Int), ((0 : Int), ((0 : Int), ())))) t) v (ndRow ks) = spWZip v t ks := by
    rw [spW]; exact (if_neg (show ¬ ((10 : Int) = 9) by decide)).trans (if_pos rfl)
  have eV : ∀ l, spVal (Tre.mk (([] : List Int), ((10 : Int), ((0 : Int), ((0 : Int), ())))) t) v (ndRow l) = spVParts t v (ndRow l) := fun l => by
    rw [spVal]
    refine (if_neg ?_).trans ((if_neg (show ¬ (10 : Int) ≤ 4 by decide)).trans ((if_neg (show ¬ (10 : Int) = 9 by decide)).trans (if_pos rfl)))
    show ¬ spShN 10 (ndRow l) = false
    rw [spSh_row 10 _ (by omega)]; decide
  rw [eW, ecut, eV] at hcut
  unfold spEW
  rw [ht]
  simp only
  rw [if_neg (by simp)]
  by_cases hv : v < 0 ∨ 3 < v
  · rw [if_pos hv, if_pos hv]
  rw [if_neg hv, if_neg hv, ecut]
  by_cases h7 : (spCZip v t ks).2 = false
  · rw [if_pos h7, if_pos h7]
  rw [if_neg h7, if_neg h7]
  unfold spEnc
  have hb : spBeg t v = 0 := by unfold spBeg; rw [if_neg hv, hc]
  rw [hb, spSh_row 10 _ (by omega), if_neg (by simp), if_neg (by decide), hcut]

/-! ### the writer -/
/-- Carried out behind s, it writes r. -/
def Wri (r : List Int × Int) (f : EnS → EnS) : Prop := ∀ s : EnS, s.2.2.length ≤ 130048 →
  (s.1 ≠ 0 → (f s).1 = s.1) ∧ (s.1 = 0 → (f s).1 = r.2) ∧ ((f s).1 = 0 → (((f s).2.1 = false ↔ s.2.1 = false ∧ s.2.2.length + r.1.length ≤ 130048) ∧ ((f s).2.1 = false → (f s).2.2 = s.2.2 ++ r.1))) ∧ (f s).2.2.length ≤ 130048
theorem Wri.seq {r1 r2 : List Int × Int} {f g : EnS → EnS} (hf : Wri r1 f) (hg : Wri r2 g) : Wri (spSeq r1 r2) fun s => g (f s) := by
  intro s hs
  obtain ⟨f1, f2, f3, f4⟩ := hf s hs
  obtain ⟨g1, g2, g3, g4⟩ := hg (f s) f4
  unfold spSeq
  refine ⟨fun h => ?_, fun h => ?_, fun h => ?_, g4⟩
  · have := f1 h
    rw [g1 (by rw [this]; exact h), this]
  · have := f2 h
    by_cases h1 : r1.2 = 0
    · rw [g2 (by rw [this]; exact h1)]
      by_cases h2 : r2.2 = 0
      · simp [h1, h2]
      · simp [h1, h2]
    · rw [g1 (by rw [this]; exact h1), this]
      simp [h1]
  · by_cases h0 : (f s).1 = 0
    · have hs0 : s.1 = 0 := by
        rcases Classical.em (s.1 = 0) with h' | h'
        · exact h'
        · rw [f1 h'] at h0; exact absurd h0 h'
      have h1 : r1.2 = 0 := by rw [← f2 hs0]; exact h0
      have h2 : r2.2 = 0 := by rw [← g2 h0]; exact h
      obtain ⟨a1, a2⟩ := f3 h0
      obtain ⟨b1, b2⟩ := g3 h
      simp only [h1, h2, ne_eq, not_true_eq_false, if_false, List.length_append]
      constructor
      · constructor
        · intro hx
          obtain ⟨c1, c2⟩ := b1.1 hx
          obtain ⟨c3, c4⟩ := a1.1 c1
          rw [a2 c1, List.length_append] at c2
          exact ⟨c3, by omega⟩
        · rintro ⟨c1, c2⟩
          have c3 := a1.2 ⟨c1, by omega⟩
          exact b1.2 ⟨c3, by rw [a2 c3, List.length_append]; omega⟩
      · intro hx
        have c1 := (b1.1 hx).1
        rw [b2 hx, a2 c1, List.append_assoc]
    · rw [g1 h0] at h; exact absurd h h0
theorem Wri.fail {e : Int} (he : e ≠ 0) : Wri ([], e) (spFail e) := by
  intro s hs
  unfold spFail
  refine ⟨fun h => by rw [if_neg h], fun h => by rw [if_pos h], fun h => ?_, by split <;> exact hs⟩
  split at h
  · exact absurd h he
  · rename_i h'; exact absurd h h'
theorem Wri.put (x : Int) (n : Nat) : Wri (spBE x n, 0) (spPutE x n) := by
  intro s hs
  refine ⟨fun h => by unfold spPutE; split <;> rfl, fun h => by unfold spPutE; split <;> exact h, fun h => ?_, spPutE_le _ _ hs⟩
  unfold spPutE
  rw [spBE_len]
  split
  · constructor
    · constructor
      · intro h'; cases h'
      · rintro ⟨_, h'⟩; omega
    · intro h'; cases h'
  · constructor
    · constructor
      · intro h'; exact ⟨h', by omega⟩
      · rintro ⟨h', _⟩; exact h'
    · intro _; rfl
theorem Wri.raw (p : List Int) : Wri (p, 0) (spRawE p) := by
  intro s hs
  refine ⟨fun h => by unfold spRawE; split <;> rfl, fun h => by unfold spRawE; split <;> exact h, fun h => ?_, spRawE_le _ hs⟩
  have hp : (p, (0 : Int)).1.length = p.length := rfl
  rw [hp]
  unfold spRawE
  split
  · constructor
    · constructor
      · intro h'; cases h'
      · rintro ⟨_, h'⟩; omega
    · intro h'; cases h'
  · constructor
    · constructor
      · intro h'; exact ⟨h', by omega⟩
      · rintro ⟨h', _⟩; exact h'
    · intro _; rfl
theorem Wri.ofEq {r r' : List Int × Int} {f : EnS → EnS} (h : Wri r f) (e : r = r') : Wri r' f := e ▸ h
theorem Wri.nop : Wri ([], 0) fun s => s := by
  intro s hs
  exact ⟨fun _ => rfl, fun h => h, fun _ => ⟨⟨fun h => ⟨h, by simpa using hs⟩, fun h => h.1⟩, fun _ => by simp⟩, hs⟩
/-- A text that is written. -/
noncomputable def spTxt (t : List Int) : List Int × Int := if (spUtf t).2 = false then ([], 6) else if 255 < t.length then ([], 4) else (spBE t.length 2 ++ t, 0)
theorem Wri.str (t : List Int) : Wri (spTxt t) (spStrE t) := by
  unfold spTxt
  by_cases h1 : (spUtf t).2 = false
  · rw [if_pos h1]
    have : spStrE t = spFail 6 := funext fun s => by unfold spStrE; rw [if_pos h1]
    rw [this]; exact Wri.fail (by decide)
  · rw [if_neg h1]
    by_cases h2 : 255 < t.length
    · rw [if_pos h2]
      have : spStrE t = spFail 4 := funext fun s => by unfold spStrE; rw [if_neg h1, if_pos (by omega)]
      rw [this]; exact Wri.fail (by decide)
    · rw [if_neg h2]
      have : spStrE t = fun s => spRawE t (spPutE t.length 2 s) := funext fun s => by unfold spStrE; rw [if_neg h1, if_neg (by omega)]
      rw [this]
      exact ((Wri.put _ _).seq (Wri.raw _)).ofEq (by unfold spSeq; simp)
noncomputable def spNam (n : Bool × (List Int × Unit)) : List Int × Int := if n.1 = true then (if n.2.1.length = 0 then (spBE (-1) 2, 0) else ([], 70)) else spTxt n.2.1
theorem Wri.name (n : Bool × (List Int × Unit)) : Wri (spNam n) (spNameE n) := by
  unfold spNam
  by_cases h1 : n.1 = true
  · rw [if_pos h1]
    by_cases h2 : n.2.1 = []
    · rw [if_pos (by rw [h2]; rfl)]
      have : spNameE n = spPutE (-1) 2 := funext fun s => by unfold spNameE; rw [if_neg (fun h => h.2 h2), if_pos h1]
      rw [this]; exact Wri.put _ _
    · rw [if_neg (fun h => h2 (List.eq_nil_of_length_eq_zero h))]
      have : spNameE n = spFail 70 := funext fun s => by unfold spNameE; rw [if_pos ⟨h1, h2⟩]
      rw [this]; exact Wri.fail (by decide)
  · rw [if_neg h1]
    have : spNameE n = spStrE n.2.1 := funext fun s => by unfold spNameE; rw [if_neg (fun h => h1 h.1), if_neg h1]
    rw [this]; exact Wri.str _
noncomputable def spBlo (n : Bool × (List Int × Unit)) : List Int × Int := if n.1 = true then (if n.2.1.length = 0 then (spBE (-1) 4, 0) else ([], 70)) else (spBE n.2.1.length 4 ++ n.2.1, 0)
theorem Wri.blob (n : Bool × (List Int × Unit)) (hn : n.2.1.length ≤ 2147483647) : Wri (spBlo n) (spBlobE n) := by
  unfold spBlo
  by_cases h1 : n.1 = true
  · rw [if_pos h1]
    by_cases h2 : n.2.1.length = 0
    · rw [if_pos h2]
      have : spBlobE n = spPutE (-1) 4 := funext fun s => by unfold spBlobE; rw [if_neg (fun h => by omega), if_pos h1]
      rw [this]; exact Wri.put _ _
    · rw [if_neg h2]
      have : spBlobE n = spFail 70 := funext fun s => by unfold spBlobE; rw [if_pos ⟨h1, by omega⟩]
      rw [this]; exact Wri.fail (by decide)
  · rw [if_neg h1]
    have hwr : IntKind.i32.wrap (n.2.1.length : Int) = n.2.1.length := wrap_id (by simp [inR, IntKind.min, IntKind.max, IntKind.signed, IntKind.bits]; omega)
    have : spBlobE n = fun s => spRawE n.2.1 (spPutE n.2.1.length 4 s) := funext fun s => by unfold spBlobE; rw [if_neg (fun h => h1 h.1), if_neg h1, hwr]
    rw [this]
    exact ((Wri.put _ _).seq (Wri.raw _)).ofEq (by unfold spSeq; simp)
noncomputable def spAll {α : Type} (one : α → List Int × Int) : List α → List Int × Int
  | [] => ([], 0)
  | x :: xs => spSeq (one x) (spAll one xs)
theorem Wri.fold {α : Type} {one : α → List Int × Int} {f : α → EnS → EnS} : ∀ {xs : List α}, (∀ x ∈ xs, Wri (one x) (f x)) → Wri (spAll one xs) fun s => xs.foldl (fun s x => f x s) s
  | [], _ => Wri.nop
  | x :: xs, h => (h x (by simp)).seq (Wri.fold fun y hy => h y (List.mem_cons_of_mem _ hy))
noncomputable def spArrW {α : Type} (one : α → List Int × Int) (xs : List α) : List Int × Int := if 16 < xs.length then ([], 9) else spSeq (spBE xs.length 4, 0) (spAll one xs)
theorem Wri.items {α : Type} {one : α → List Int × Int} {f : α → EnS → EnS} {xs : List α} (h : ∀ x ∈ xs, Wri (one x) (f x)) : Wri (spArrW one xs) (spItems f xs) := by
  unfold spArrW
  by_cases h1 : 16 < xs.length
  · rw [if_pos h1]
    have : spItems f xs = spFail 9 := funext fun s => by unfold spItems; rw [if_pos (by omega)]
    rw [this]; exact Wri.fail (by decide)
  · rw [if_neg h1]
    have : spItems f xs = fun s => xs.foldl (fun s x => f x s) (spPutE xs.length 4 s) := funext fun s => by unfold spItems; rw [if_neg (by omega)]
    rw [this]
    exact (Wri.put _ _).seq (Wri.fold h)
theorem Wri.hasE (v lo hi x : Int) (n : Nat) : Wri (if lo ≤ v ∧ v ≤ hi then (spBE x n, 0) else ([], 0)) (spHasE v lo hi x n) := by
  by_cases h : lo ≤ v ∧ v ≤ hi
  · rw [if_pos h]
    have : spHasE v lo hi x n = spPutE x n := funext fun s => by unfold spHasE; rw [if_pos h]
    rw [this]; exact Wri.put _ _
  · rw [if_neg h]
    have : spHasE v lo hi x n = fun s => s := funext fun s => by unfold spHasE; rw [if_neg h]
    rw [this]; exact Wri.nop
/-- What comes out at the end. -/
theorem Wri.done {r : List Int × Int} {f : EnS → EnS} (h : Wri r f) (e : Int) : (spDoneO (f (e, (false, []))), spDoneE (f (e, (false, [])))) = if e ≠ 0 then ([], e) else if r.2 ≠ 0 then ([], r.2) else if 130048 < r.1.length then ([], 4) else (r.1, 0) := by
  obtain ⟨h1, h2, h3, _⟩ := h (e, (false, [])) (by simp)
  by_cases he : e = 0
  · subst he
    have h2 := h2 rfl
    by_cases hr : r.2 = 0
    · have h0 : (f (0, (false, []))).1 = 0 := by rw [h2]; exact hr
      obtain ⟨h4, h5⟩ := h3 h0
      have h4 : (f (0, (false, []))).2.1 = false ↔ r.1.length ≤ 130048 :=
        ⟨fun hx => by have := (h4.1 hx).2; simpa using this, fun hx => h4.2 ⟨rfl, by simpa using hx⟩⟩
      by_cases hl : 130048 < r.1.length
      · have hf : (f (0, (false, []))).2.1 = true := by
          cases hx : (f (0, (false, []))).2.1 with
          | true => rfl
          | false => have := h4.1 hx; omega
        simp [spDoneO, spDoneE, h0, hf, hr, hl]
      · have hf := h4.2 (by omega)
        have h6 := h5 hf
        simp [spDoneO, spDoneE, h0, hf, hr, hl, h6]
    · have h0 : ¬ (f (0, (false, []))).1 = 0 := by rw [h2]; exact hr
      simp [spDoneO, spDoneE, h2, hr]
  · have h1 := h1 he
    simp [spDoneO, spDoneE, h1, he]
end
end Go.Proofs.YtmlgepgcofmpeaaGreat.Sym

/- Leaves, arrays, structs of the messages' tables; the tables are tables. -/
namespace Go.Proofs.YtmlgepgcofmpeaaGreat.Sym
open Go
set_option linter.unusedSimpArgs false
set_option linter.unusedVariables false
noncomputable section

theorem spFits_i8 {n : Int} (h : inR .i8 n) : spFits n 1 = true := by
  simp only [inR, IntKind.min, IntKind.max, IntKind.signed, IntKind.bits] at h
  simp at h
  unfold spFits
  rw [if_neg (by decide), if_pos]
  simp; omega
theorem spFits_i16 {n : Int} (h : inR .i16 n) : spFits n 2 = true := by
  simp only [inR, IntKind.min, IntKind.max, IntKind.signed, IntKind.bits] at h
  simp at h
  unfold spFits
  rw [if_neg (by decide), if_pos]
  simp; omega
theorem spFits_i32 {n : Int} (h : inR .i32 n) : spFits n 4 = true := by
  simp only [inR, IntKind.min, IntKind.max, IntKind.signed, IntKind.bits] at h
  simp at h
  unfold spFits
  rw [if_neg (by decide), if_pos]
  simp; omega
theorem spFits_i64 (n : Int) : spFits n 8 = true := by unfold spFits; rw [if_pos (by decide)]
theorem spW_leaf {nm : List Int} {k lo hi : Int} {e : List Fd} {v : Int} {n : Nd} (h9 : k ≠ 9) (h10 : k ≠ 10) : spW (fld nm k lo hi e) v n = spVal (fld nm k lo hi e) v n := by
  obtain ⟨a, ks⟩ := n
  rw [spW]
  exact (if_neg h9).trans (if_neg h10)
theorem spCut_leaf {nm : List Int} {k lo hi : Int} {e : List Fd} {v : Int} {n : Nd} (h9 : k ≠ 9) (h10 : k ≠ 10) : (spCut (fld nm k lo hi e) v n).2 = true := by
  obtain ⟨a, ks⟩ := n
  rw [spCut]
  exact congrArg Prod.snd ((if_neg h9).trans (if_neg h10))
theorem spWhole_leaf {nm : List Int} {k lo hi : Int} {e : List Fd} {n : Nd} (h9 : k ≠ 9) (h10 : k ≠ 10) : spWhole (fld nm k lo hi e) n := by
  obtain ⟨a, ks⟩ := n
  rw [spWhole]
  exact ⟨fun h => absurd h h9, fun h => absurd h h10⟩
theorem spSh_num {k n : Int} (h : k < 5) : spShN k (ndNum k n) = true := by
  unfold spShN
  simp; omega
theorem spW_num {nm : List Int} {k lo hi n w : Int} {e : List Fd} {v : Int} (hk : k ≤ 4) (hw : spWid k = w) (hf : spFits n w = true) : spW (fld nm k lo hi e) v (ndNum k n) = (spBE n w.toNat, 0) := by
  rw [spW_leaf (by omega) (by omega), spVal]
  refine (if_neg ?_).trans ((if_pos hk).trans ?_)
  · show ¬ spShN k (ndNum k n) = false
    rw [spSh_num (by omega)]; decide
  · show (if spFits n (spWid k) = true then _ else _) = _
    rw [hw, if_pos hf]
theorem spW_text {nm : List Int} {lo hi : Int} {e : List Fd} {v : Int} (s : List Int) : spW (fld nm 5 lo hi e) v (ndText s) = spTxt s := by
  rw [spW_leaf (by decide) (by decide), spVal]
  refine (if_neg ?_).trans ((if_neg (show ¬ (5 : Int) ≤ 4 by decide)).trans ((if_neg (show ¬ (5 : Int) = 9 by decide)).trans ((if_neg (show ¬ (5 : Int) = 10 by decide)).trans ((if_neg (show ¬ (false = true) by decide)).trans ?_))))
  · show ¬ spShN 5 (ndText s) = false
    unfold spShN; simp
  · unfold spTxt
    by_cases h1 : (spUtf s).2 = false
    · rw [if_pos h1]; exact if_pos ⟨(show (5 : Int) ≤ 6 by decide), h1⟩
    · rw [if_neg h1]
      refine (if_neg (fun h => h1 h.2)).trans ?_
      by_cases h2 : 255 < s.length
      · rw [if_pos h2]; exact if_pos ⟨(show (5 : Int) ≤ 6 by decide), h2⟩
      · rw [if_neg h2]; exact if_neg (fun h => h2 h.2)
theorem spW_ntext {nm : List Int} {lo hi : Int} {e : List Fd} {v : Int} (n : tNameT.den) : spW (fld nm 6 lo hi e) v (ndNText n) = spNam n := by
  obtain ⟨z, s, ⟨⟩⟩ := n
  rw [spW_leaf (by decide) (by decide), spVal]
  refine (if_neg ?_).trans ((if_neg (show ¬ (6 : Int) ≤ 4 by decide)).trans ((if_neg (show ¬ (6 : Int) = 9 by decide)).trans ((if_neg (show ¬ (6 : Int) = 10 by decide)).trans ?_)))
  · show ¬ spShN 6 (ndNText (z, (s, ()))) = false
    unfold spShN; simp
  · unfold spNam
    by_cases hz : z = true
    · refine (if_pos hz).trans ?_
      rw [if_pos hz]; rfl
    · refine (if_neg hz).trans ?_
      rw [if_neg hz]
      unfold spTxt
      by_cases h1 : (spUtf s).2 = false
      · rw [if_pos h1]; exact if_pos ⟨(show (6 : Int) ≤ 6 by decide), h1⟩
      · rw [if_neg h1]
        refine (if_neg (fun h => h1 h.2)).trans ?_
        by_cases h2 : 255 < List.length s
        · rw [if_pos h2]; exact if_pos ⟨(show (6 : Int) ≤ 6 by decide), h2⟩
        · rw [if_neg h2]; exact if_neg (fun h => h2 h.2)
theorem spW_nbytes {nm : List Int} {lo hi : Int} {e : List Fd} {v : Int} (n : tBlobT.den) : spW (fld nm 8 lo hi e) v (ndNBytes n) = spBlo n := by
  obtain ⟨z, s, ⟨⟩⟩ := n
  rw [spW_leaf (by decide) (by decide), spVal]
  refine (if_neg ?_).trans ((if_neg (show ¬ (8 : Int) ≤ 4 by decide)).trans ((if_neg (show ¬ (8 : Int) = 9 by decide)).trans ((if_neg (show ¬ (8 : Int) = 10 by decide)).trans ?_)))
  · show ¬ spShN 8 (ndNBytes (z, (s, ()))) = false
    unfold spShN; simp
  · unfold spBlo
    by_cases hz : z = true
    · refine (if_pos hz).trans ?_
      rw [if_pos hz]; rfl
    · refine (if_neg hz).trans ?_
      rw [if_neg hz]
      exact (if_neg (fun h => absurd (show (8 : Int) ≤ 6 from h.1) (by decide))).trans (if_neg (fun h => absurd (show (8 : Int) ≤ 6 from h.1) (by decide)))
theorem spW_rows {α : Type} {nm : List Int} {lo hi : Int} {g : Fd} {v : Int} (F : α → Nd) (l : List α) : spW (fld nm 9 lo hi [g]) v (ndRows (l.map F)) = spArrW (fun x => spW g v (F x)) l := by
  rw [spW]
  refine (if_pos rfl).trans ?_
  unfold spArrW
  have : ∀ l : List α, spWItems g v (l.map F) = spAll (fun x => spW g v (F x)) l := by
    intro l
    induction l with
    | nil => rw [List.map_nil, spWItems]; rfl
    | cons x l ih => rw [List.map_cons, spWItems, ih]; rfl
  rw [List.length_map]
  show (if 16 < l.length then _ else spSeq _ (spWItems g v (l.map F))) = _
  rw [this]
theorem spW_row {nm : List Int} {lo hi : Int} {fs : List Fd} {v : Int} (ks : List Nd) : spW (fld nm 10 lo hi fs) v (ndRow ks) = spWZip v fs ks := by
  rw [spW]; exact (if_neg (show ¬ ((10 : Int) = 9) by decide)).trans (if_pos rfl)
theorem spCut_rows {α : Type} {nm : List Int} {lo hi : Int} {g : Fd} {v : Int} (F : α → Nd) (l : List α) : (spCut (fld nm 9 lo hi [g]) v (ndRows (l.map F))).2 = l.all fun x => (spCut g v (F x)).2 := by
  rw [spCut]
  refine (congrArg Prod.snd (if_pos rfl)).trans ?_
  show (spCItems g v (l.map F)).2 = _
  induction l with
  | nil => rw [List.map_nil, spCItems]; rfl
  | cons x l ih => rw [List.map_cons, spCItems, List.all_cons, ih]
theorem spCut_row {nm : List Int} {lo hi : Int} {fs : List Fd} {v : Int} (ks : List Nd) : (spCut (fld nm 10 lo hi fs) v (ndRow ks)).2 = (spCZip v fs ks).2 := by
  rw [spCut]; exact congrArg Prod.snd ((if_neg (show ¬ ((10 : Int) = 9) by decide)).trans (if_pos rfl))
theorem spWhole_rows {α : Type} {nm : List Int} {lo hi : Int} {g : Fd} (F : α → Nd) (l : List α) (h : ∀ x, spWhole g (F x)) : spWhole (fld nm 9 lo hi [g]) (ndRows (l.map F)) := by
  rw [spWhole]
  refine ⟨fun _ => ?_, fun h => absurd (show (9 : Int) = 10 from h) (by decide)⟩
  show spWholes g (l.map F)
  induction l with
  | nil => rw [List.map_nil, spWholes]; trivial
  | cons x l ih => rw [List.map_cons, spWholes]; exact ⟨h x, ih⟩
theorem spWhole_row {nm : List Int} {lo hi : Int} {fs : List Fd} {ks : List Nd} (hl : ks.length = fs.length) (h : spWholeZ fs ks) : spWhole (fld nm 10 lo hi fs) (ndRow ks) := by
  rw [spWhole]
  exact ⟨fun h => absurd (show (10 : Int) = 9 from h) (by decide), fun _ => ⟨hl, h⟩⟩
theorem spWhole_nil : spWholeZ [] [] := by rw [spWholeZ]; trivial; simp
theorem spWhole_cons {f : Fd} {fs : List Fd} {k : Nd} {ks : List Nd} (h1 : spWhole f k) (h2 : spWholeZ fs ks) : spWholeZ (f :: fs) (k :: ks) := by rw [spWholeZ]; exact ⟨h1, h2⟩
theorem spWZ_has {f : Fd} {fs : List Fd} {k : Nd} {ks : List Nd} {v : Int} (h : spHas f v = true) : spWZip v (f :: fs) (k :: ks) = spSeq (spW f v k) (spWZip v fs ks) := by rw [spWZip, if_pos h]
theorem spWZ_not {f : Fd} {fs : List Fd} {k : Nd} {ks : List Nd} {v : Int} (h : spHas f v = false) : spWZip v (f :: fs) (k :: ks) = spWZip v fs ks := by rw [spWZip, if_neg (by rw [h]; decide)]
theorem spCZ_has {f : Fd} {fs : List Fd} {k : Nd} {ks : List Nd} {v : Int} (h : spHas f v = true) : (spCZip v (f :: fs) (k :: ks)).2 = ((spCut f v k).2 && (spCZip v fs ks).2) := by rw [spCZip, if_pos h]
theorem spCZ_not {f : Fd} {fs : List Fd} {k : Nd} {ks : List Nd} {v : Int} (h : spHas f v = false) : (spCZip v (f :: fs) (k :: ks)).2 = (spZeroN k && (spCZip v fs ks).2) := by rw [spCZip, if_neg (by rw [h]; decide)]
theorem spHas_in {nm : List Int} {k lo hi v : Int} {e : List Fd} (h1 : lo ≤ v) (h2 : v ≤ hi) : spHas (fld nm k lo hi e) v = true := if_pos ⟨h1, h2⟩
theorem spHas_out {nm : List Int} {k lo hi v : Int} {e : List Fd} (h : v < lo ∨ hi < v) : spHas (fld nm k lo hi e) v = false := if_neg (by show ¬ (lo ≤ v ∧ v ≤ hi); omega)
/-- Where it is in doubt. -/
theorem spWZ_opt {nm : List Int} {k lo hi : Int} {e fs : List Fd} {n : Nd} {ks : List Nd} {v : Int} : spWZip v (fld nm k lo hi e :: fs) (n :: ks) = if lo ≤ v ∧ v ≤ hi then spSeq (spW (fld nm k lo hi e) v n) (spWZip v fs ks) else spWZip v fs ks := by
  by_cases h : lo ≤ v ∧ v ≤ hi
  · rw [if_pos h, spWZ_has (spHas_in h.1 h.2)]
  · rw [if_neg h, spWZ_not (spHas_out (by omega))]
theorem spCZ_opt {nm : List Int} {k lo hi : Int} {e fs : List Fd} {n : Nd} {ks : List Nd} {v : Int} : (spCZip v (fld nm k lo hi e :: fs) (n :: ks)).2 = ((if lo ≤ v ∧ v ≤ hi then (spCut (fld nm k lo hi e) v n).2 else spZeroN n) && (spCZip v fs ks).2) := by
  by_cases h : lo ≤ v ∧ v ≤ hi
  · rw [if_pos h, spCZ_has (spHas_in h.1 h.2)]
  · rw [if_neg h, spCZ_not (spHas_out (by omega))]
theorem spCZ_nil {v : Int} : (spCZip v [] []).2 = true := by rw [spCZip_nl]
theorem spZero_num {k n : Int} : spZeroN (ndNum k n) = (n == 0) := by unfold spZeroN; by_cases h : n = 0 <;> simp [h]
theorem spZero_ntext {n : tNameT.den} : spZeroN (ndNText n) = (n.1 == false && decide (n.2.1 = [])) := by
  obtain ⟨z, s, ⟨⟩⟩ := n
  unfold spZeroN
  cases z <;> simp
/-- Is it a field, is it a list of fields: so deep at most. -/
def okF : Nat → Int → Fd → Bool
  | 0, _, _ => false
  | n + 1, d, .mk a ks => !(decide (a.1.length = 0)) && (!(decide (a.2.2.1 < 0)) && (!(decide (3 < a.2.2.2.1)) && (!(decide (a.2.2.2.1 < a.2.2.1)) && (!(decide (a.2.1 < 1)) && (!(decide (10 < a.2.1)) &&
      (if a.2.1 < 9 then decide (ks.length = 0) else
        (!(decide (ks.length < 1)) && (!(decide (16 < ks.length)) && (!(decide (8 < d + 1)) && (spDist ks 0 ks && ks.all fun k => okF n (d + 1) k)))) && (spVers ks 5 a.2.2.1 a.2.2.2.1 && (decide (a.2.1 = 10) || decide (ks.length = 1)))))))))
theorem spFieldsOk_all {d : Int} : ∀ {l : List Fd}, (∀ k ∈ l, spFieldOk d k = true) → spFieldsOk d l = true
  | [], _ => by rw [spFieldsOk]
  | k :: l, h => by rw [spFieldsOk, h k (by simp), spFieldsOk_all (l := l) fun k' hk' => h k' (List.mem_cons_of_mem _ hk')]; rfl
theorem okF_sound : ∀ (n : Nat) (d : Int) (f : Fd), okF n d f = true → spFieldOk d f = true
  | 0, _, _, h => by cases h
  | n + 1, d, .mk a ks, h => by
    rw [okF] at h
    simp only [Bool.and_eq_true, Bool.not_eq_true', decide_eq_false_iff_not] at h
    obtain ⟨h1, h2, h3, h4, h5, h6, h7⟩ := h
    rw [spFieldOk, if_neg h1, if_neg h2, if_neg h3, if_neg h4, if_neg h5, if_neg h6]
    by_cases h9 : a.2.1 < 9
    · rw [if_pos h9] at h7 ⊢
      rw [if_pos (of_decide_eq_true h7)]
    · rw [if_neg h9] at h7 ⊢
      simp only [Bool.and_eq_true, Bool.not_eq_true', decide_eq_false_iff_not, Bool.or_eq_true, decide_eq_true_eq, List.all_eq_true] at h7
      obtain ⟨⟨g1, g2, g3, g4, g5⟩, g6, g7⟩ := h7
      have hl : spListOk (d + 1) ks = true := by
        rw [spListOk, if_neg g1, if_neg g2, if_neg g3, g4, spFieldsOk_all fun k hk => okF_sound n _ k (g5 k hk)]; rfl
      rw [hl, if_neg (by decide), g6, if_neg (by decide)]
      split
      · rfl
      · rename_i h10
        rw [if_pos (g7.resolve_left h10)]
theorem spChk_of {t : List Fd} (h : (!(decide (t.length < 1)) && (!(decide (16 < t.length)) && (spDist t 0 t && t.all fun k => okF 9 1 k))) = true) : spChk t = 0 := by
  simp only [Bool.and_eq_true, Bool.not_eq_true', decide_eq_false_iff_not, List.all_eq_true] at h
  obtain ⟨g1, g2, g4, g5⟩ := h
  unfold spChk
  rw [if_pos]
  rw [spListOk, if_neg g1, if_neg g2, if_neg (by decide), g4, spFieldsOk_all fun k hk => okF_sound 9 _ k (g5 k hk)]; rfl
theorem spChk_0q : spChk spT0q = 0 := spChk_of rfl
theorem spChk_0p : spChk spT0p = 0 := spChk_of rfl
theorem spChk_1q : spChk spT1q = 0 := spChk_of rfl
theorem spChk_1p : spChk spT1p = 0 := spChk_of rfl
theorem spChk_2q : spChk spT2q = 0 := spChk_of rfl
theorem spChk_2p : spChk spT2p = 0 := spChk_of rfl
end
end Go.Proofs.YtmlgepgcofmpeaaGreat.Sym

/- Produce's encoders answer as the reference. -/
namespace Go.Proofs.YtmlgepgcofmpeaaGreat.Sym
open Go
set_option linter.unusedSimpArgs false
set_option linter.unusedVariables false
noncomputable section

theorem spLacks_first {e v lo hi : Int} {z : Bool} : spLacks v z lo hi (e, (false, ([] : List Int))) = ((if e ≠ 0 then e else if z = false ∧ (v < lo ∨ hi < v) then 7 else 0), (false, [])) := by
  unfold spLacks spFail
  by_cases h : z = false ∧ (v < lo ∨ hi < v)
  · rw [if_pos h]
    by_cases he : e = 0
    · simp [he, h]
    · simp [he]
  · rw [if_neg h]
    by_cases he : e = 0
    · simp [he, h]
    · simp [he]
noncomputable def wPart (p : tPart.den) : List Int × Int := spSeq (spBE p.1 4, 0) (spSeq (spBlo p.2.1) ([], 0))
noncomputable def wTopic (t : tTopic.den) : List Int × Int := spSeq (spTxt t.1) (spSeq (spArrW wPart t.2.1) ([], 0))
theorem Wri.part (p : tPart.den) (h : partOk p = true) : Wri (wPart p) (spPartE p) := (Wri.put _ _).seq ((Wri.blob _ (of_decide_eq_true h)).seq Wri.nop)
theorem Wri.topic (t : tTopic.den) (h : topicOk t = true) : Wri (wTopic t) (spTopicE t) := (Wri.str _).seq ((Wri.items fun p hp => Wri.part p (List.all_eq_true.1 h p hp)).seq Wri.nop)
theorem spW_part {v : Int} {p : tPart.den} (hv : 0 ≤ v ∧ v ≤ 3) (h : tPart.wf p) : spW (fld [112, 97, 114, 116] 10 0 3 [fld [105, 110, 100, 101, 120] 3 0 3 [], fld [114, 101, 99, 115] 8 0 3 []]) v (spFPart p) = wPart p := by
  unfold spFPart wPart
  rw [spW_row, spWZ_has (spHas_in hv.1 hv.2), spWZ_has (spHas_in hv.1 hv.2), spWZip_nl, spW_num (by decide) (w := 4) rfl (spFits_i32 h.1), spW_nbytes]
  rfl
theorem spArrW_congr {α : Type} {f g : α → List Int × Int} {l : List α} (h : ∀ x ∈ l, f x = g x) : spArrW f l = spArrW g l := by
  have : spAll f l = spAll g l := by
    induction l with
    | nil => rfl
    | cons x l ih =>
      rw [spAll, spAll, h x (by simp), ih fun y hy => h y (List.mem_cons_of_mem _ hy)]
  unfold spArrW
  rw [this]
theorem spW_topic {v : Int} {t : tTopic.den} (hv : 0 ≤ v ∧ v ≤ 3) (h : tTopic.wf t) : spW (fld [116, 111, 112, 105, 99] 10 0 3 [fld [110, 97, 109, 101] 5 0 3 [], fld [112, 97, 114, 116, 115] 9 0 3 [fld [112, 97, 114, 116] 10 0 3 [fld [105, 110, 100, 101, 120] 3 0 3 [], fld [114, 101, 99, 115] 8 0 3 []]]]) v (spFTopic t) = wTopic t := by
  unfold spFTopic wTopic
  rw [spW_row, spWZ_has (spHas_in hv.1 hv.2), spWZ_has (spHas_in hv.1 hv.2), spWZip_nl, spW_text, spW_rows, spArrW_congr fun p hp => spW_part hv (h.2.1.2 p hp)]
theorem spCut_part {v : Int} {p : tPart.den} (hv : 0 ≤ v ∧ v ≤ 3) : (spCut (fld [112, 97, 114, 116] 10 0 3 [fld [105, 110, 100, 101, 120] 3 0 3 [], fld [114, 101, 99, 115] 8 0 3 []]) v (spFPart p)).2 = true := by
  unfold spFPart
  rw [spCut_row, spCZ_has (spHas_in hv.1 hv.2), spCZ_has (spHas_in hv.1 hv.2), spCZ_nil, spCut_leaf (by decide) (by decide), spCut_leaf (by decide) (by decide)]; rfl
theorem spCut_topic {v : Int} {t : tTopic.den} (hv : 0 ≤ v ∧ v ≤ 3) : (spCut (fld [116, 111, 112, 105, 99] 10 0 3 [fld [110, 97, 109, 101] 5 0 3 [], fld [112, 97, 114, 116, 115] 9 0 3 [fld [112, 97, 114, 116] 10 0 3 [fld [105, 110, 100, 101, 120] 3 0 3 [], fld [114, 101, 99, 115] 8 0 3 []]]]) v (spFTopic t)).2 = true := by
  unfold spFTopic
  rw [spCut_row, spCZ_has (spHas_in hv.1 hv.2), spCZ_has (spHas_in hv.1 hv.2), spCZ_nil, spCut_leaf (by decide) (by decide), spCut_rows]
  rw [List.all_eq_true.2 fun p _ => spCut_part hv]; rfl
theorem spWhole_req (m : tReq.den) : spWholeZ spT0q [ndNText m.1, ndNum 2 m.2.1, ndNum 3 m.2.2.1, ndRows (m.2.2.2.1.map spFTopic)] := by
  unfold spT0q spTopics
  refine spWhole_cons (spWhole_leaf (by decide) (by decide)) (spWhole_cons (spWhole_leaf (by decide) (by decide)) (spWhole_cons (spWhole_leaf (by decide) (by decide)) (spWhole_cons ?_ spWhole_nil)))
  refine spWhole_rows _ _ fun t => spWhole_row rfl (spWhole_cons (spWhole_leaf (by decide) (by decide)) (spWhole_cons ?_ spWhole_nil))
  exact spWhole_rows _ _ fun p => spWhole_row rfl (spWhole_cons (spWhole_leaf (by decide) (by decide)) (spWhole_cons (spWhole_leaf (by decide) (by decide)) spWhole_nil))
/-- The request that the program writes is what the document says. -/
theorem req_law {v : Int} {m : tReq.den} (hm : tReq.wf m) (hok : spTopicsOk m.2.2.2.1 = true) : (spDoneO (spReqE v m), spDoneE (spReqE v m)) = spEReq v m := by
  unfold spEReq spFullReq
  rw [spEW_eq (t := spT0q) rfl spChk_0q rfl (spWhole_req m)]
  unfold spReqE
  rw [spLacks_first]
  have hitems : Wri (spArrW wTopic m.2.2.2.1) (spItems spTopicE m.2.2.2.1) := Wri.items fun t ht => Wri.topic t (List.all_eq_true.1 hok t ht)
  unfold spNewE
  by_cases hv : v < 0 ∨ 3 < v
  · rw [if_pos hv, if_pos hv]
    have hr := (Wri.put m.2.1 2).seq ((Wri.put m.2.2.1 4).seq hitems)
    have ht : ∀ s, spTxnE v m.1 s = s := fun s => by unfold spTxnE; rw [if_neg (by omega)]
    rw [ht]
    exact (hr.done _).trans (if_pos (by simp))
  rw [if_neg hv, if_neg hv]
  have hv' : 0 ≤ v ∧ v ≤ 3 := by omega
  have hcz : (spCZip v spT0q [ndNText m.1, ndNum 2 m.2.1, ndNum 3 m.2.2.1, ndRows (m.2.2.2.1.map spFTopic)]).2 = (if 3 ≤ v ∧ v ≤ 3 then true else (m.1.1 == false && decide (m.1.2.1 = []))) := by
    unfold spT0q spTopics
    rw [spCZ_opt, spCZ_has (spHas_in hv'.1 hv'.2), spCZ_has (spHas_in hv'.1 hv'.2), spCZ_has (spHas_in hv'.1 hv'.2), spCZ_nil, spCut_leaf (by decide) (by decide), spCut_leaf (by decide) (by decide), spCut_leaf (by decide) (by decide), spCut_rows, spZero_ntext]
    rw [List.all_eq_true.2 fun p _ => spCut_topic hv']
    simp
  have hwz : spWZip v spT0q [ndNText m.1, ndNum 2 m.2.1, ndNum 3 m.2.2.1, ndRows (m.2.2.2.1.map spFTopic)] = if 3 ≤ v ∧ v ≤ 3 then spSeq (spNam m.1) (spSeq (spBE m.2.1 2, 0) (spSeq (spBE m.2.2.1 4, 0) (spSeq (spArrW wTopic m.2.2.2.1) ([], 0)))) else spSeq (spBE m.2.1 2, 0) (spSeq (spBE m.2.2.1 4, 0) (spSeq (spArrW wTopic m.2.2.2.1) ([], 0))) := by
    unfold spT0q spTopics
    rw [spWZ_opt, spWZ_has (spHas_in hv'.1 hv'.2), spWZ_has (spHas_in hv'.1 hv'.2), spWZ_has (spHas_in hv'.1 hv'.2), spWZip_nl, spW_ntext, spW_num (by decide) (w := 2) rfl (spFits_i16 hm.2.1), spW_num (by decide) (w := 4) rfl (spFits_i32 hm.2.2.1), spW_rows, spArrW_congr fun t ht => spW_topic hv' (hm.2.2.2.1.2 t ht)]
    rfl
  rw [hcz, hwz]
  by_cases h3 : v = 3
  · have e : 3 ≤ v ∧ v ≤ 3 := by omega
    rw [if_pos e, if_pos e]
    have hr := (Wri.name m.1).seq ((Wri.put m.2.1 2).seq ((Wri.put m.2.2.1 4).seq (hitems.seq Wri.nop)))
    have ht : ∀ s, spTxnE v m.1 s = spNameE m.1 s := fun s => by unfold spTxnE; rw [if_pos h3]
    rw [ht]
    refine (hr.done _).trans ?_
    have e0 : (if (0 : Int) ≠ 0 then (0 : Int) else if (m.1.1 == false && decide (m.1.2.1 = [])) = false ∧ (v < 3 ∨ 3 < v) then 7 else 0) = 0 := by
      rw [if_neg (by simp), if_neg (by omega)]
    rw [e0]
    exact (if_neg (by decide)).trans (if_neg (by decide)).symm
  · have e : ¬ (3 ≤ v ∧ v ≤ 3) := by omega
    rw [if_neg e, if_neg e]
    have hr := (Wri.put m.2.1 2).seq ((Wri.put m.2.2.1 4).seq (hitems.seq Wri.nop))
    have ht : ∀ s, spTxnE v m.1 s = s := fun s => by unfold spTxnE; rw [if_neg h3]
    rw [ht]
    refine (hr.done _).trans ?_
    by_cases hz : (m.1.1 == false && decide (m.1.2.1 = [])) = false
    · have e0 : (if (0 : Int) ≠ 0 then (0 : Int) else if (m.1.1 == false && decide (m.1.2.1 = [])) = false ∧ (v < 3 ∨ 3 < v) then 7 else 0) = 7 := by
        rw [if_neg (by simp), if_pos ⟨hz, by omega⟩]
      rw [e0, if_pos (by simp), if_pos hz]
    · have e0 : (if (0 : Int) ≠ 0 then (0 : Int) else if (m.1.1 == false && decide (m.1.2.1 = [])) = false ∧ (v < 3 ∨ 3 < v) then 7 else 0) = 0 := by
        rw [if_neg (by simp), if_neg (fun h => hz h.1)]
      rw [e0, if_neg (by simp), if_neg hz]

theorem Wri.opt {r : List Int × Int} {g : EnS → EnS} (v lo hi x : Int) (n : Nat) (hg : Wri r g) : Wri (if lo ≤ v ∧ v ≤ hi then spSeq (spBE x n, 0) r else r) (fun s => g (spHasE v lo hi x n s)) := by
  by_cases h : lo ≤ v ∧ v ≤ hi
  · rw [if_pos h]
    have : (fun s => g (spHasE v lo hi x n s)) = fun s => g (spPutE x n s) := funext fun s => by unfold spHasE; rw [if_pos h]
    rw [this]; exact (Wri.put x n).seq hg
  · rw [if_neg h]
    have : (fun s => g (spHasE v lo hi x n s)) = g := funext fun s => by unfold spHasE; rw [if_neg h]
    rw [this]; exact hg
noncomputable def wDone (v : Int) (p : tDone.den) : List Int × Int := spSeq (spBE p.1 4, 0) (spSeq (spBE p.2.1 2, 0) (spSeq (spBE p.2.2.1 8, 0)
  (if 2 ≤ v ∧ v ≤ 3 then spSeq (spBE p.2.2.2.1 8, 0) (if 3 ≤ v ∧ v ≤ 3 then spSeq (spBE p.2.2.2.2.1 8, 0) ([], 0) else ([], 0)) else (if 3 ≤ v ∧ v ≤ 3 then spSeq (spBE p.2.2.2.2.1 8, 0) ([], 0) else ([], 0)))))
noncomputable def wGone (v : Int) (t : tGone.den) : List Int × Int := spSeq (spTxt t.1) (spSeq (spArrW (wDone v) t.2.1) ([], 0))
theorem Wri.donep (v : Int) (p : tDone.den) : Wri (wDone v p) (spDoneRowE v p) := (Wri.put _ _).seq ((Wri.put _ _).seq ((Wri.put _ _).seq (Wri.opt v 2 3 p.2.2.2.1 8 (Wri.opt v 3 3 p.2.2.2.2.1 8 Wri.nop))))
theorem Wri.gone (v : Int) (t : tGone.den) : Wri (wGone v t) (spGoneE v t) := (Wri.str _).seq ((Wri.items fun p _ => Wri.donep v p).seq Wri.nop)
abbrev fDone : Fd := fld [112, 97, 114, 116] 10 0 3 [fld [105, 110, 100, 101, 120] 3 0 3 [], fld [99, 111, 100, 101] 2 0 3 [], fld [98, 97, 115, 101] 4 0 3 [], fld [116, 105, 109, 101] 4 2 3 [], fld [115, 116, 97, 114, 116] 4 3 3 []]
abbrev fGone : Fd := fld [116, 111, 112, 105, 99] 10 0 3 [fld [110, 97, 109, 101] 5 0 3 [], fld [112, 97, 114, 116, 115] 9 0 3 [fDone]]
theorem spW_done {v : Int} {p : tDone.den} (hv : 0 ≤ v ∧ v ≤ 3) (h : tDone.wf p) : spW fDone v (spFDone p) = wDone v p := by
  unfold spFDone wDone
  rw [spW_row, spWZ_has (spHas_in hv.1 hv.2), spWZ_has (spHas_in hv.1 hv.2), spWZ_has (spHas_in hv.1 hv.2), spWZ_opt, spWZ_opt, spWZip_nl, spW_num (by decide) (w := 4) rfl (spFits_i32 h.1), spW_num (by decide) (w := 2) rfl (spFits_i16 h.2.1),
    spW_num (by decide) (w := 8) rfl (spFits_i64 _), spW_num (by decide) (w := 8) rfl (spFits_i64 _), spW_num (by decide) (w := 8) rfl (spFits_i64 _)]
  rfl
theorem spW_gone {v : Int} {t : tGone.den} (hv : 0 ≤ v ∧ v ≤ 3) (h : tGone.wf t) : spW fGone v (spFGone t) = wGone v t := by
  unfold spFGone wGone
  rw [spW_row, spWZ_has (spHas_in hv.1 hv.2), spWZ_has (spHas_in hv.1 hv.2), spWZip_nl, spW_text, spW_rows, spArrW_congr fun p hp => spW_done hv (h.2.1.2 p hp)]
/-- Nothing is lost of a part. -/
noncomputable def okDone (v : Int) (p : tDone.den) : Bool := (if 2 ≤ v ∧ v ≤ 3 then true else (p.2.2.2.1 == 0)) && (if 3 ≤ v ∧ v ≤ 3 then true else (p.2.2.2.2.1 == 0))
theorem spCut_done {v : Int} {p : tDone.den} (hv : 0 ≤ v ∧ v ≤ 3) : (spCut fDone v (spFDone p)).2 = okDone v p := by
  unfold spFDone okDone
  rw [spCut_row, spCZ_has (spHas_in hv.1 hv.2), spCZ_has (spHas_in hv.1 hv.2), spCZ_has (spHas_in hv.1 hv.2), spCZ_opt, spCZ_opt, spCZ_nil, spCut_leaf (by decide) (by decide), spCut_leaf (by decide) (by decide), spCut_leaf (by decide) (by decide), spCut_leaf (by decide) (by decide), spCut_leaf (by decide) (by decide), spZero_num, spZero_num]
  simp
theorem spCut_gone {v : Int} {t : tGone.den} (hv : 0 ≤ v ∧ v ≤ 3) : (spCut fGone v (spFGone t)).2 = t.2.1.all (okDone v) := by
  unfold spFGone
  rw [spCut_row, spCZ_has (spHas_in hv.1 hv.2), spCZ_has (spHas_in hv.1 hv.2), spCZ_nil, spCut_leaf (by decide) (by decide), spCut_rows]
  simp only [spCut_done hv, Bool.true_and, Bool.and_true]
theorem spWhole_rep (m : tRep.den) : spWholeZ spT0p [ndRows (m.1.map spFGone), ndNum 3 m.2.1] := by
  unfold spT0p spTopics
  refine spWhole_cons ?_ (spWhole_cons (spWhole_leaf (by decide) (by decide)) spWhole_nil)
  refine spWhole_rows _ _ fun t => spWhole_row rfl (spWhole_cons (spWhole_leaf (by decide) (by decide)) (spWhole_cons ?_ spWhole_nil))
  exact spWhole_rows _ _ fun p => spWhole_row rfl (spWhole_cons (spWhole_leaf (by decide) (by decide)) (spWhole_cons (spWhole_leaf (by decide) (by decide)) (spWhole_cons (spWhole_leaf (by decide) (by decide)) (spWhole_cons (spWhole_leaf (by decide) (by decide)) (spWhole_cons (spWhole_leaf (by decide) (by decide)) spWhole_nil)))))
/-- The first error behind tests for fields that the version has not. -/
noncomputable def spLk (e : Int) (ok : Bool) : Int := if e ≠ 0 then e else if ok = false then 7 else 0
theorem spLk_and (e : Int) (a b : Bool) : spLk (spLk e a) b = spLk e (a && b) := by
  unfold spLk
  by_cases he : e = 0
  · subst he; cases a <;> cases b <;> simp
  · simp [he]
theorem spLk_true (e : Int) : spLk e true = e := by unfold spLk; by_cases h : e = 0 <;> simp [h]
theorem spLacks_lk {e v lo hi : Int} {z : Bool} : spLacks v z lo hi (e, (false, ([] : List Int))) = (spLk e (if lo ≤ v ∧ v ≤ hi then true else z), (false, [])) := by
  rw [spLacks_first]
  unfold spLk
  by_cases he : e = 0
  · subst he
    by_cases h : lo ≤ v ∧ v ≤ hi
    · rw [if_pos h]
      have : ¬ (z = false ∧ (v < lo ∨ hi < v)) := by rintro ⟨_, h'⟩; omega
      simp [this]
    · rw [if_neg h]
      have : v < lo ∨ hi < v := by omega
      simp [this]
  · simp [he]
theorem spLackP_lk {e v : Int} {p : tDone.den} : spLackP v p (e, (false, ([] : List Int))) = (spLk e (okDone v p), (false, [])) := by
  unfold spLackP okDone
  rw [spLacks_lk, spLacks_lk, spLk_and]
theorem spLackPs_lk {v : Int} : ∀ {ps : List tDone.den} {e : Int}, spLackPs v ps (e, (false, ([] : List Int))) = (spLk e (ps.all (okDone v)), (false, []))
  | [], e => by rw [List.all_nil, spLk_true]; rfl
  | p :: ps, e => by
    show spLackPs v ps (spLackP v p (e, (false, []))) = _
    rw [spLackP_lk, spLackPs_lk, spLk_and, List.all_cons]
theorem spLackR_lk {v : Int} : ∀ {ts : List tGone.den} {e : Int}, spLackR v ts (e, (false, ([] : List Int))) = (spLk e (ts.all fun t => t.2.1.all (okDone v)), (false, []))
  | [], e => by rw [List.all_nil, spLk_true]; rfl
  | t :: ts, e => by
    show spLackR v ts (spLackPs v t.2.1 (e, (false, []))) = _
    rw [spLackPs_lk, spLackR_lk, spLk_and, List.all_cons]
/-- The answer that the program writes is what the document says. -/
theorem rep_law {v : Int} {m : tRep.den} (hm : tRep.wf m) : (spDoneO (spRepE v m), spDoneE (spRepE v m)) = spERep v m := by
  unfold spERep spFullRep
  rw [spEW_eq (t := spT0p) rfl spChk_0p rfl (spWhole_rep m)]
  unfold spRepE
  rw [spLacks_lk, spLackR_lk, spLk_and]
  have hitems : Wri (spArrW (wGone v) m.1) (spGonesE v m.1) := Wri.items fun t _ => Wri.gone v t
  have hr := hitems.seq (Wri.opt v 1 3 m.2.1 4 Wri.nop)
  refine (hr.done _).trans ?_
  unfold spNewE
  by_cases hv : v < 0 ∨ 3 < v
  · rw [if_pos hv, if_pos hv]
    exact if_pos (by simp [spLk])
  rw [if_neg hv, if_neg hv]
  have hv' : 0 ≤ v ∧ v ≤ 3 := by omega
  have hcz : (spCZip v spT0p [ndRows (m.1.map spFGone), ndNum 3 m.2.1]).2 = ((m.1.all fun t => t.2.1.all (okDone v)) && (if 1 ≤ v ∧ v ≤ 3 then true else (m.2.1 == 0))) := by
    unfold spT0p spTopics
    rw [spCZ_has (spHas_in hv'.1 hv'.2), spCZ_opt, spCZ_nil, spCut_rows, spCut_leaf (by decide) (by decide), spZero_num, Bool.and_true]
    simp only [spCut_gone hv']
  have hwz : spWZip v spT0p [ndRows (m.1.map spFGone), ndNum 3 m.2.1] = spSeq (spArrW (wGone v) m.1) (if 1 ≤ v ∧ v ≤ 3 then spSeq (spBE m.2.1 4, 0) ([], 0) else ([], 0)) := by
    unfold spT0p spTopics
    rw [spWZ_has (spHas_in hv'.1 hv'.2), spWZ_opt, spWZip_nl, spW_num (by decide) (w := 4) rfl (spFits_i32 hm.2.1), spW_rows, spArrW_congr fun t ht => spW_gone hv' (hm.1.2 t ht)]
    rfl
  rw [hcz, hwz]
  rw [Bool.and_comm]
  by_cases hz : ((m.1.all fun t => t.2.1.all (okDone v)) && (if 1 ≤ v ∧ v ≤ 3 then true else (m.2.1 == 0))) = false
  · rw [hz]
    exact (if_pos (by decide)).trans (by rfl)
  · have hz : ((m.1.all fun t => t.2.1.all (okDone v)) && (if 1 ≤ v ∧ v ≤ 3 then true else (m.2.1 == 0))) = true := by
      cases hx : ((m.1.all fun t => t.2.1.all (okDone v)) && (if 1 ≤ v ∧ v ≤ 3 then true else (m.2.1 == 0))) with
      | true => rfl
      | false => exact absurd hx hz
    rw [hz]
    exact (if_neg (by decide)).trans (if_neg (by decide)).symm
/-- A contract that says no more, of data that are well-formed. -/
theorem HcOk.weakW {f : Nat} {io : Io} {Fn Fn' : io.In → Tr io.Res} (h : HcOk prog f (ioHd io Fn)) (hF : ∀ d y, io.wf d → (Fn' d).val = some y → (Fn d).val = some y) : HcOk prog f (ioHd io Fn') := by
  intro R args id A K r F G ts cst w vals hid hc Rl hv
  unfold ioHd at hc
  cases h1 : mVs io.args args (List.replicate io.obs.length Option.none) with
  | none => rw [h1] at hc; cases hc
  | some p =>
    obtain ⟨a, β1⟩ := p
    rw [h1] at hc
    simp only at hc
    cases h2 : mOb A.ob io.obs 0 β1 with
    | none => rw [h2] at hc; cases hc
    | some q =>
      obtain ⟨o, β⟩ := q
      rw [h2] at hc
      simp only at hc
      have hn := fun y => hF (a, o) y ⟨mVs_wf h1 hv, mOb_wf Rl.ob h2⟩
      refine h R args id A K r F G ts cst w vals hid ?_ Rl hv
      unfold ioHd
      rw [h1]
      simp only [h2]
      revert hc
      cases nodupB ((owVs (idTmp 0) io.args args 0 ++ owOb A.ob β (bnId io.obs.length 0) io.obs 0).map (·.2)) && (nodupB ((owVs (idTmp 0) io.args args 0 ++ owOb A.ob β (bnId io.obs.length 0) io.obs 0).map (·.1)) && io.ok) with
      | false => intro hc; cases hc
      | true =>
        intro hc
        obtain ⟨out, ho, hk⟩ := Tr.run_val hc
        exact (Tr.val_run (hn out ho)).trans hk
--@alias qReqR leat/produce.EncodeReq
noncomputable abbrev ioqReqR : Io := ioqReq
noncomputable def FqReqR (d : ioqReqR.In) : Tr ioqReqR.Res := .ite (spTopicsOk d.1.2.1.2.2.2.1) (.ret (.ret (((spEReq d.1.1 d.1.2.1).1, ((spEReq d.1.1 d.1.2.1).2, ())), ()))) .no
theorem okqReqR : HcOk prog 11 (ioHd ioqReqR FqReqR) := by
  refine HcOk.weakW okqReq ?_
  rintro ⟨⟨(v : Int), m, ⟨⟩⟩, ⟨⟩⟩ y hw hy
  obtain ⟨hg, hy⟩ := Tr.guard hy
  refine (bif_true hg _ _).trans ?_
  rw [← hy]
  have h := req_law (v := v) (m := m) hw.1.2.1 hg
  show some (Out.ret ((spDoneO (spReqE v m), (spDoneE (spReqE v m), ())), ())) = some (Out.ret (((spEReq v m).1, ((spEReq v m).2, ())), ()))
  rw [← h]
--@alias rRepR leat/produce.EncodeRep
noncomputable abbrev iorRepR : Io := iorRep
noncomputable def FrRepR (d : iorRepR.In) : Tr iorRepR.Res := .ret (.ret (((spERep d.1.1 d.1.2.1).1, ((spERep d.1.1 d.1.2.1).2, ())), ()))
theorem okrRepR : HcOk prog 16 (ioHd iorRepR FrRepR) := by
  refine HcOk.weakW okrRep ?_
  rintro ⟨⟨(v : Int), m, ⟨⟩⟩, ⟨⟩⟩ y hw hy
  rw [← hy]
  have h := rep_law (v := v) (m := m) hw.1.2.1
  show some (Out.ret ((spDoneO (spRepE v m), (spDoneE (spRepE v m), ())), ())) = some (Out.ret (((spERep v m).1, ((spERep v m).2, ())), ()))
  rw [← h]
end
end Go.Proofs.YtmlgepgcofmpeaaGreat.Sym

/- leatlaw11.alive. -/
namespace Go.Proofs.YtmlgepgcofmpeaaGreat.Sym
open Go
set_option linter.unusedSimpArgs false
set_option linter.unusedVariables false
noncomputable section

/-! ### leat/leatlaw11.alive -/
noncomputable abbrev iopalive : Io := ⟨[], [], [], [dB], none⟩
noncomputable def Fpalive (d : iopalive.In) : Tr iopalive.Res := .ret (.ret ((true, ()), ()))
noncomputable abbrev cspalive : List (Nat × Hc) := [(11, ioHd ioqReq FqReq), (16, ioHd iorRep FrRep), (20, ioHd iouReq FuReq), (24, ioHd iowRep FwRep), (31, ioHd ioSame FSame)]
noncomputable def hdpalive : Hd := hdT cspalive
noncomputable def lppalive : Lp := lpT []

noncomputable def bodypalive : Option iopalive.Res := bif (spDecReq 0 [0, 1, 0, 0, 0, 10, 0, 0, 0, 0]).snd != 0 then some (Out.ret ((false, ()), ())) else bif (spDecRep 1 [0, 0, 0, 0, 0, 0, 0, 5]).snd != 0 then some (Out.ret ((false, ()), ())) else bif (spDecReq 0 [0, 1, 0, 0, 0, 10, 0, 0, 0, 0]).fst.snd.fst != 1 then some (Out.ret ((false, ()), ())) else bif (spDecReq 0 [0, 1, 0, 0, 0, 10, 0, 0, 0, 0]).fst.snd.snd.fst != 10 then some (Out.ret ((false, ()), ())) else bif (spDecRep 1 [0, 0, 0, 0, 0, 0, 0, 5]).fst.snd.fst != 5 then some (Out.ret ((false, ()), ())) else some (Out.ret ((decide ([0, 0, 0, 0, 0, 0, 0, 5] = [0, 0, 0, 0, 0, 0, 0, 5]), ()), ()))
theorem runpalive : Io.run tt hdpalive dr lppalive iopalive Go.Proofs.Tryz.f8 ((), ()) = bodypalive  := by kernel_rfl
theorem okpalive : HcOk prog 8 (ioHd iopalive Fpalive) := by
  refine fn_sound (n := 400) hm (cs := cspalive) (.cons okqReq (.cons okrRep (.cons okuReq (.cons okwRep (.cons okSame .nil))))) (lp := lppalive) (fn := Go.Proofs.Tryz.f8) (by kernel_rfl) (by kernel_rfl) (by kernel_rfl) iopalive (.done (by kernel_rfl)) Fpalive ?_
  rintro ⟨⟨⟩, ⟨⟩⟩ out hw ho
  cases ho
  refine runpalive.trans ?_
  kernel_rfl
end
end Go.Proofs.YtmlgepgcofmpeaaGreat.Sym

/- leatlaw11.ProduceAsks, ProduceTells. -/
namespace Go.Proofs.YtmlgepgcofmpeaaGreat.Sym
open Go
set_option linter.unusedSimpArgs false
set_option linter.unusedVariables false
noncomputable section

/-! ### leat/leatlaw11.ProduceAsks -/
noncomputable abbrev iopAsks : Io := ⟨[dI, .dat tReq true false], [], [], [dB], none⟩
noncomputable def spSmReq (m : tReq.den) : Bool := spTopicsOk m.2.2.2.1 && (spLensReq m.2.2.2.1 && decide (8 * spWt (spFullReq m) ≤ 4294967296))
noncomputable def FpAsks (d : iopAsks.In) : Tr iopAsks.Res := .ite (spSmReq d.1.2.1) (.ret (.ret ((true, ()), ()))) .no
theorem spEW_len (k : Int) (r : Bool) (v : Int) (n : Nd) : (spEW k r v n).1.length ≤ 130048 := by
  unfold spEW spEnc
  repeat' split
  all_goals first | (simp; done) | (dsimp only; omega)
noncomputable abbrev cspAsks : List (Nat × Hc) := [(8, ioHd iopalive Fpalive), (9, ioHd iozTwinReq FzTwinReq), (10, ioHd iozEncReq FzEncReq), (11, pureHd (ioHd ioqReqR FqReqR)), (12, ioHd iozAlikeReq FzAlikeReq), (13, apartHd)]
noncomputable def hdpAsks : Hd := hdT cspAsks
noncomputable def lppAsks : Lp := lpT []

noncomputable def bodypAsks (a0 : Int) (a1 : Bool) (a2 : List Int) (a3 : Int) (a4 : Int) (a5 : List tTopic.den) : Option iopAsks.Res := bif spLensReq a5 && decide (spWt (spFullReq ((a1, a2, ()), a3, a4, a5, ())) ≤ 4294967296) then bif spLensReq a5 && decide (8 * spWt (spFullReq ((a1, a2, ()), a3, a4, a5, ())) ≤ 4294967296) then bif spTopicsOk a5 then bif spTopicsOk a5 then bif (spEReq a0 ((a1, a2, ()), a3, a4, a5, ())).snd != (spEReq a0 ((a1, a2, ()), a3, a4, a5, ())).snd then some (Out.ret ((false, ()), ())) else bif (spEReq a0 ((a1, a2, ()), a3, a4, a5, ())).snd != (spEReq a0 ((a1, a2, ()), a3, a4, a5, ())).snd then some (Out.ret ((false, ()), ())) else bif spLensReq a5 && spLensReq a5 then bif !spEqT ((a1, a2, ()), a3, a4, a5, ()) ((a1, a2, ()), a3, a4, a5, ()) then some (Out.ret ((false, ()), ())) else bif decide ((spEReq a0 ((a1, a2, ()), a3, a4, a5, ())).fst.length ≤ 4294967000) && decide ((spEReq a0 ((a1, a2, ()), a3, a4, a5, ())).fst.length ≤ 4294967000) then bif decide ((spEReq a0 ((a1, a2, ()), a3, a4, a5, ())).fst = (spEReq a0 ((a1, a2, ()), a3, a4, a5, ())).fst) && decide ((spEReq a0 ((a1, a2, ()), a3, a4, a5, ())).fst = (spEReq a0 ((a1, a2, ()), a3, a4, a5, ())).fst) then bif spLensReq a5 && spLensReq a5 then some (Out.ret ((spEqT ((a1, a2, ()), a3, a4, a5, ()) ((a1, a2, ()), a3, a4, a5, ()), ()), ())) else none else some (Out.ret ((false, ()), ())) else none else none else none else none else none else none
theorem runpAsks (a0 : Int) (a1 : Bool) (a2 : List Int) (a3 : Int) (a4 : Int) (a5 : List tTopic.den) : Io.run tt hdpAsks dr lppAsks iopAsks Go.Proofs.Tryz.f3 ((a0, ((a1, a2, ()), a3, a4, a5, ()), ()), ()) = bodypAsks a0 a1 a2 a3 a4 a5 := by kernel_rfl
theorem okpAsks : HcOk prog 3 (ioHd iopAsks FpAsks) := by
  refine fn_sound (n := 400) hm (cs := cspAsks) (.cons okpalive (.cons okzTwinReq (.cons okzEncReq (.cons (pure_sound okqReqR) (.cons okzAlikeReq (.cons okapart .nil)))))) (lp := lppAsks) (fn := Go.Proofs.Tryz.f3) (by kernel_rfl) (by kernel_rfl) (by kernel_rfl) iopAsks (.done (by kernel_rfl)) FpAsks ?_
  rintro ⟨⟨(v : Int), ⟨⟨nz, ns, ⟨⟩⟩, ak, wt, ts, ⟨⟩⟩, ⟨⟩⟩, ⟨⟩⟩ out hw ho
  obtain ⟨hg, ho⟩ := Tr.guard ho
  unfold spSmReq at hg
  simp only [Bool.and_eq_true, decide_eq_true_eq] at hg
  obtain ⟨h1, h2, h3⟩ := hg
  cases ho
  refine (runpAsks v nz ns ak wt ts).trans ?_
  unfold bodypAsks
  have h1 : spTopicsOk ts = true := h1
  have h2 : spLensReq ts = true := h2
  have h3 : 8 * spWt (spFullReq ((nz, (ns, ())), (ak, (wt, (ts, ()))))) ≤ 4294967296 := h3
  have h4 : decide (spWt (spFullReq ((nz, (ns, ())), (ak, (wt, (ts, ()))))) ≤ 4294967296) = true := by simp; omega
  have h5 : (spEReq v ((nz, (ns, ())), (ak, (wt, (ts, ()))))).1.length ≤ 130048 := by unfold spEReq; exact spEW_len _ _ _ _
  have h6 : decide ((spEReq v ((nz, (ns, ())), (ak, (wt, (ts, ()))))).1.length ≤ 4294967000) = true := by simp; omega
  have h7 : spEqT ((nz, (ns, ())), (ak, (wt, (ts, ())))) ((nz, (ns, ())), (ak, (wt, (ts, ())))) = true := spEqT_iff.2 rfl
  simp only [h1, h2, h4, decide_eq_true h3, h6, h7, cond_true, cond_false, bne_self_eq_false, Bool.not_true, decide_true, Bool.and_self]

/-! ### leat/leatlaw11.ProduceTells -/
noncomputable abbrev iopTells : Io := ⟨[dI, .dat tRep true false], [], [], [dB], none⟩
noncomputable def spSmRep (m : tRep.den) : Bool := spLensRep m.1 && decide (8 * spWt (spFullRep m) ≤ 4294967296)
noncomputable def FpTells (d : iopTells.In) : Tr iopTells.Res := .ite (spSmRep d.1.2.1) (.ret (.ret ((true, ()), ()))) .no
noncomputable abbrev cspTells : List (Nat × Hc) := [(8, ioHd iopalive Fpalive), (14, ioHd iozTwinRep FzTwinRep), (15, ioHd iozEncRep FzEncRep), (16, pureHd (ioHd iorRepR FrRepR)), (17, ioHd iozAlikeRep FzAlikeRep), (13, apartHd)]
noncomputable def hdpTells : Hd := hdT cspTells
noncomputable def lppTells : Lp := lpT []

noncomputable def bodypTells (a0 : Int) (a1 : List tGone.den) (a2 : Int) : Option iopTells.Res := bif spLensRep a1 && decide (spWt (spFullRep (a1, a2, ())) ≤ 4294967296) then bif spLensRep a1 && decide (8 * spWt (spFullRep (a1, a2, ())) ≤ 4294967296) then bif (spERep a0 (a1, a2, ())).snd != (spERep a0 (a1, a2, ())).snd then some (Out.ret ((false, ()), ())) else bif (spERep a0 (a1, a2, ())).snd != (spERep a0 (a1, a2, ())).snd then some (Out.ret ((false, ()), ())) else bif spLensRep a1 && spLensRep a1 then bif !spEqT (a1, a2, ()) (a1, a2, ()) then some (Out.ret ((false, ()), ())) else bif decide ((spERep a0 (a1, a2, ())).fst.length ≤ 4294967000) && decide ((spERep a0 (a1, a2, ())).fst.length ≤ 4294967000) then bif decide ((spERep a0 (a1, a2, ())).fst = (spERep a0 (a1, a2, ())).fst) && decide ((spERep a0 (a1, a2, ())).fst = (spERep a0 (a1, a2, ())).fst) then bif spLensRep a1 && spLensRep a1 then some (Out.ret ((spEqT (a1, a2, ()) (a1, a2, ()), ()), ())) else none else some (Out.ret ((false, ()), ())) else none else none else none else none
theorem runpTells (a0 : Int) (a1 : List tGone.den) (a2 : Int) : Io.run tt hdpTells dr lppTells iopTells Go.Proofs.Tryz.f4 ((a0, (a1, a2, ()), ()), ()) = bodypTells a0 a1 a2 := by kernel_rfl
theorem okpTells : HcOk prog 4 (ioHd iopTells FpTells) := by
  refine fn_sound (n := 400) hm (cs := cspTells) (.cons okpalive (.cons okzTwinRep (.cons okzEncRep (.cons (pure_sound okrRepR) (.cons okzAlikeRep (.cons okapart .nil)))))) (lp := lppTells) (fn := Go.Proofs.Tryz.f4) (by kernel_rfl) (by kernel_rfl) (by kernel_rfl) iopTells (.done (by kernel_rfl)) FpTells ?_
  rintro ⟨⟨(v : Int), ⟨ts, th, ⟨⟩⟩, ⟨⟩⟩, ⟨⟩⟩ out hw ho
  obtain ⟨hg, ho⟩ := Tr.guard ho
  unfold spSmRep at hg
  simp only [Bool.and_eq_true, decide_eq_true_eq] at hg
  obtain ⟨h2, h3⟩ := hg
  cases ho
  refine (runpTells v ts th).trans ?_
  unfold bodypTells
  have h2 : spLensRep ts = true := h2
  have h3 : 8 * spWt (spFullRep (ts, (th, ()))) ≤ 4294967296 := h3
  have h4 : decide (spWt (spFullRep (ts, (th, ()))) ≤ 4294967296) = true := by simp; omega
  have h5 : (spERep v (ts, (th, ()))).1.length ≤ 130048 := by unfold spERep; exact spEW_len _ _ _ _
  have h6 : decide ((spERep v (ts, (th, ()))).1.length ≤ 4294967000) = true := by simp; omega
  have h7 : spEqT (ts, (th, ())) (ts, (th, ())) = true := spEqT_iff.2 rfl
  simp only [h2, h4, decide_eq_true h3, h6, h7, cond_true, cond_false, bne_self_eq_false, Bool.not_true, decide_true, Bool.and_self]
end
end Go.Proofs.YtmlgepgcofmpeaaGreat.Sym

/- A message's bulk bounds its tree. -/
namespace Go.Proofs.YtmlgepgcofmpeaaGreat.Sym
open Go
set_option linter.unusedSimpArgs false
set_option linter.unusedVariables false
noncomputable section

theorem sum_ones {k : IntKind} : ∀ b : List Int, (List.map (dsz (.int k)) b).sum = b.length
  | [] => rfl
  | c :: b => by
    have := sum_ones (k := k) b
    rw [List.map_cons, List.sum_cons, this, List.length_cons]
    show 1 + _ = _
    omega
theorem dsz_bs (b : List Int) : dsz bs b = b.length + 1 := by
  show (List.map (dsz (.int .u8)) b).sum + 1 = _
  rw [sum_ones]
theorem wts_map {T : Ty} {F : T.den → Nd} {c : Nat} : ∀ {l : List T.den}, (∀ x ∈ l, spWt (F x) ≤ c * dsz T x) → spWts (l.map F) ≤ c * (l.map (dsz T)).sum
  | [], _ => by rw [List.map_nil, spWts_nil]; exact Nat.zero_le _
  | x :: l, h => by
    have h1 := h x (by simp)
    have h2 := wts_map (l := l) fun y hy => h y (List.mem_cons_of_mem _ hy)
    rw [List.map_cons, spWts_cons, List.map_cons, List.sum_cons, Nat.mul_add]
    omega
theorem sum_mem {T : Ty} {x : T.den} : ∀ {l : List T.den}, x ∈ l → dsz T x ≤ (l.map (dsz T)).sum
  | y :: l, h => by
    rw [List.map_cons, List.sum_cons]
    rcases List.mem_cons.1 h with rfl | h
    · omega
    · have := sum_mem (l := l) h; omega
theorem sum_len {T : Ty} (hT : ∀ x : T.den, 1 ≤ dsz T x) : ∀ l : List T.den, l.length ≤ (l.map (dsz T)).sum
  | [] => Nat.zero_le _
  | x :: l => by
    have := sum_len hT l
    have := hT x
    rw [List.map_cons, List.sum_cons, List.length_cons]; omega
theorem dsz_part (p : tPart.den) : dsz tPart p = p.2.1.2.1.length + 3 := by
  show 1 + ((1 + (dsz bs p.2.1.2.1 + 0)) + 0) = _
  rw [dsz_bs]; omega
theorem dsz_topic (t : tTopic.den) : dsz tTopic t = (t.1.length + 1) + (((t.2.1.map (dsz tPart)).sum + 1) + 0) := rfl
theorem dsz_req (m : tReq.den) : dsz tReq m = (1 + ((m.1.2.1.length + 1) + 0)) + (1 + (1 + (((m.2.2.2.1.map (dsz tTopic)).sum + 1) + 0))) := rfl
theorem spWt_num (k n : Int) : spWt (ndNum k n) = 1 := by rw [spWt_eq]; show 1 + 0 + spWts [] = 1; rw [spWts_nil]
theorem spWt_text (x : List Int) : spWt (ndText x) = 1 + x.length := by rw [spWt_eq]; show 1 + x.length + spWts [] = _; rw [spWts_nil]; rfl
theorem spWt_ntext (x : tNameT.den) : spWt (ndNText x) = 1 + x.2.1.length := by rw [spWt_eq]; show 1 + x.2.1.length + spWts [] = _; rw [spWts_nil]; rfl
theorem spWt_nbytes (x : tBlobT.den) : spWt (ndNBytes x) = 1 + x.2.1.length := by rw [spWt_eq]; show 1 + x.2.1.length + spWts [] = _; rw [spWts_nil]; rfl
theorem spWt_row (l : List Nd) : spWt (ndRow l) = 1 + spWts l := by rw [spWt_eq]; show 1 + 0 + spWts l = _; omega
theorem spWt_rows (l : List Nd) : spWt (ndRows l) = 1 + spWts l := by rw [spWt_eq]; show 1 + 0 + spWts l = _; omega
theorem spWts_one (k : Nd) : spWts [k] = spWt k := by rw [spWts_cons, spWts_nil]; omega
theorem wt_part (p : tPart.den) : spWt (spFPart p) ≤ 3 * dsz tPart p := by
  rw [dsz_part]
  show spWt (ndRow [ndNum 3 p.1, ndNBytes p.2.1]) ≤ _
  rw [spWt_row, spWts_cons, spWts_cons, spWts_nil, spWt_num, spWt_nbytes]
  omega
theorem wt_topic (t : tTopic.den) : spWt (spFTopic t) ≤ 3 * dsz tTopic t := by
  have h := wts_map (T := tPart) (F := spFPart) (c := 3) (l := t.2.1) fun p _ => wt_part p
  rw [dsz_topic]
  show spWt (ndRow [ndText t.1, ndRows (t.2.1.map spFPart)]) ≤ _
  rw [spWt_row, spWts_cons, spWts_cons, spWts_nil, spWt_text, spWt_rows]
  omega
theorem req_bulk {m : tReq.den} (h : dsz tReq m ≤ 1048576) : spSmReq m = true := by
  have h1 := wts_map (T := tTopic) (F := spFTopic) (c := 3) (l := m.2.2.2.1) fun t _ => wt_topic t
  have h2 := sum_len (T := tTopic) (fun t => by rw [dsz_topic]; omega) m.2.2.2.1
  rw [dsz_req] at h
  have ht : ∀ t ∈ m.2.2.2.1, dsz tTopic t ≤ 1048576 := fun t ht => by have := sum_mem (T := tTopic) ht; omega
  have hp : ∀ t ∈ m.2.2.2.1, t.2.1.length ≤ 1048576 ∧ ∀ p ∈ t.2.1, p.2.1.2.1.length ≤ 1048576 := fun t htm => by
    have a1 := ht t htm
    rw [dsz_topic] at a1
    have a2 := sum_len (T := tPart) (fun p => by rw [dsz_part]; omega) t.2.1
    refine ⟨by omega, fun p hp => ?_⟩
    have a3 := sum_mem (T := tPart) hp
    rw [dsz_part] at a3
    omega
  unfold spSmReq
  simp only [Bool.and_eq_true, decide_eq_true_eq]
  refine ⟨?_, ?_, ?_⟩
  · refine List.all_eq_true.2 fun t htm => List.all_eq_true.2 fun p hpm => decide_eq_true ?_
    have := (hp t htm).2 p hpm
    omega
  · unfold spLensReq
    simp only [Bool.and_eq_true, decide_eq_true_eq]
    refine ⟨by omega, List.all_eq_true.2 fun t htm => decide_eq_true ?_⟩
    have := (hp t htm).1
    omega
  · unfold spFullReq
    show 8 * spWt (ndRow [ndNText m.1, ndNum 2 m.2.1, ndNum 3 m.2.2.1, ndRows (m.2.2.2.1.map spFTopic)]) ≤ _
    rw [spWt_row, spWts_cons, spWts_cons, spWts_cons, spWts_cons, spWts_nil, spWt_ntext, spWt_num, spWt_num, spWt_rows]
    omega
theorem dsz_done (p : tDone.den) : dsz tDone p = 5 := rfl
theorem dsz_gone (t : tGone.den) : dsz tGone t = (t.1.length + 1) + (((t.2.1.map (dsz tDone)).sum + 1) + 0) := rfl
theorem dsz_rep (m : tRep.den) : dsz tRep m = ((m.1.map (dsz tGone)).sum + 1) + (1 + 0) := rfl
theorem wt_done (p : tDone.den) : spWt (spFDone p) ≤ 3 * dsz tDone p := by
  rw [dsz_done]
  show spWt (ndRow [ndNum 3 p.1, ndNum 2 p.2.1, ndNum 4 p.2.2.1, ndNum 4 p.2.2.2.1, ndNum 4 p.2.2.2.2.1]) ≤ _
  rw [spWt_row, spWts_cons, spWts_cons, spWts_cons, spWts_cons, spWts_cons, spWts_nil, spWt_num, spWt_num, spWt_num, spWt_num, spWt_num]
  omega
theorem wt_gone (t : tGone.den) : spWt (spFGone t) ≤ 3 * dsz tGone t := by
  have h := wts_map (T := tDone) (F := spFDone) (c := 3) (l := t.2.1) fun p _ => wt_done p
  rw [dsz_gone]
  show spWt (ndRow [ndText t.1, ndRows (t.2.1.map spFDone)]) ≤ _
  rw [spWt_row, spWts_cons, spWts_cons, spWts_nil, spWt_text, spWt_rows]
  omega
theorem rep_bulk {m : tRep.den} (h : dsz tRep m ≤ 1048576) : spSmRep m = true := by
  have h1 := wts_map (T := tGone) (F := spFGone) (c := 3) (l := m.1) fun t _ => wt_gone t
  have h2 := sum_len (T := tGone) (fun t => by rw [dsz_gone]; omega) m.1
  rw [dsz_rep] at h
  have hp : ∀ t ∈ m.1, t.2.1.length ≤ 1048576 := fun t htm => by
    have a1 := sum_mem (T := tGone) htm
    rw [dsz_gone] at a1
    have a2 := sum_len (T := tDone) (fun p => by rw [dsz_done]; omega) t.2.1
    omega
  unfold spSmRep
  simp only [Bool.and_eq_true, decide_eq_true_eq]
  refine ⟨?_, ?_⟩
  · unfold spLensRep
    simp only [Bool.and_eq_true, decide_eq_true_eq]
    refine ⟨by omega, List.all_eq_true.2 fun t htm => decide_eq_true ?_⟩
    have := hp t htm
    omega
  · unfold spFullRep
    show 8 * spWt (ndRow [ndRows (m.1.map spFGone), ndNum 3 m.2.1]) ≤ _
    rw [spWt_row, spWts_cons, spWts_cons, spWts_nil, spWt_num, spWt_rows]
    omega
end
end Go.Proofs.YtmlgepgcofmpeaaGreat.Sym
