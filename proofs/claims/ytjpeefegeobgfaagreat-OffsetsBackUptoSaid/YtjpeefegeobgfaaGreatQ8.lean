/- leatref13: Rep as a tree, as new memory, compared, written. -/
import Derived.Test.YtjpeefegeobgfaaGreatQ7

namespace Go.Proofs.YtjpeefegeobgfaaGreat.Sym
open Go
set_option linter.unusedSimpArgs false
set_option linter.unusedVariables false
noncomputable section
def sporF (p : torPart.den) : Nd := ndRow [ndNum 3 p.1, ndNum 2 p.2.1, spNums p.2.2.1, ndNum 4 p.2.2.2.1, ndNum 4 p.2.2.2.2.1, ndNum 3 p.2.2.2.2.2.1]
theorem sporF_eq {p : torPart.den} (h : torPart.wf p) : ndRow [ndNum 3 (IntKind.i64.wrap p.1), ndNum 2 (IntKind.i64.wrap p.2.1), spNums p.2.2.1, ndNum 4 p.2.2.2.1, ndNum 4 p.2.2.2.2.1, ndNum 3 (IntKind.i64.wrap p.2.2.2.2.2.1)] = sporF p := by
  rw [i64_i32 (n := p.1) h.1, i64_i16 (n := p.2.1) h.2.1, i64_i32 (n := p.2.2.2.2.2.1) h.2.2.2.2.2.1]; rfl
def sporFT (t : torTopic.den) : Nd := ndRow [ndText t.1, ndRows (t.2.1.map sporF)]
@[irreducible] def sporFull (m : torMsg.den) : Nd := ndRow [ndNum 3 m.1, ndRows (m.2.1.map sporFT)]
def sporO (x : Nd) : torPart.den := (IntKind.i32.wrap (spAt x 0).lab.2.1, (IntKind.i16.wrap (spAt x 1).lab.2.1, ((spAt x 2).kids.map spN8O, ((spAt x 3).lab.2.1, ((spAt x 4).lab.2.1, (IntKind.i32.wrap (spAt x 5).lab.2.1, ()))))))
def sporOT (x : Nd) : torTopic.den := ((spAt x 0).lab.2.2.2.1, ((spAt x 1).kids.map sporO, ()))
@[irreducible] def sporOM (n : Nd) : torMsg.den := (IntKind.i32.wrap (spAt n 0).lab.2.1, ((spAt n 1).kids.map sporOT, ()))
theorem sporO_full {p : torPart.den} (h : torPart.wf p) : sporO (sporF p) = p := by
  obtain ⟨(ix : Int), (cd : Int), (of : List Int), (ti : Int), (fo : Int), (ep : Int), ⟨⟩⟩ := p
  show (IntKind.i32.wrap ix, (IntKind.i16.wrap cd, ((spNums of).kids.map spN8O, (ti, (fo, (IntKind.i32.wrap ep, ())))))) = _
  rw [spNums_kids, i32_id (n := ix) h.1, i16_id (n := cd) h.2.1, i32_id (n := ep) h.2.2.2.2.2.1]
  try rfl
theorem sporOT_full {t : torTopic.den} (h : torTopic.wf t) : sporOT (sporFT t) = t := by
  obtain ⟨n, l, ⟨⟩⟩ := t
  show (n, ((l.map sporF).map sporO, ())) = _
  rw [List.map_map, map_id_of (f := sporO ∘ sporF) (l := l) fun p hp => sporO_full (h.2.1.2 p hp)]
theorem sporOM_full {m : torMsg.den} (h : torMsg.wf m) : sporOM (sporFull m) = m := by
  obtain ⟨(th : Int), (ts : List torTopic.den), ⟨⟩⟩ := m
  unfold sporOM sporFull
  show (IntKind.i32.wrap th, ((ts.map sporFT).map sporOT, ())) = _
  rw [i32_id (n := th) h.1, List.map_map, map_id_of (f := sporOT ∘ sporFT) (l := ts) fun t ht => sporOT_full (h.2.1.2 t ht)]
abbrev iozorFull : Io := ⟨[.dat torMsg true false], [], [], [dNode], none⟩
def sporLenT (t : torTopic.den) : Bool := decide (t.2.1.length ≤ 4294967296) && t.2.1.all fun p => decide (p.2.2.1.length ≤ 4294967296)
def sporLens (l : List torTopic.den) : Bool := decide (l.length ≤ 4294967296) && l.all sporLenT
def FzorFull (d : iozorFull.In) : Tr iozorFull.Res := .ite (sporLens d.1.1.2.1) (.ret (.ret ((sporFull d.1.1, ()), ()))) .no
abbrev cszorFull : List (Nat × Hc) := [(130, ioHd iotNum FtNum), (131, ioHd iotRow FtRow), (132, ioHd iotText FtText), (133, ioHd iotRows FtRows), (144, ioHd iozNs FzNs)]
def hdzorFull : Hd := hdT cszorFull
abbrev lozorFull_8 : Lo := ⟨⟨[.any, .one (.ptr 1 0), .one (.ptr 2 0), .one (.onl 98 tNode 7), .one (.hol (.int IntKind.i64)), .one (.onl 98 tNode 11), .one (.hol (.int IntKind.i64)), .any, .any, .any, .any, .any, .any, .any, .any, .any, .any, .any, .any, .any, .any, .any, .any, .any, .any, .any, .any, .any, .any, .any, .any, .any, .any, .any, .any, .any, .any, .any, .any, .any, .any, .any, .any, .any, .any, .any, .any, .any, .any, .any, .any, .any, .any, .any, .any, .any, .any, .any, .any, .any, .any, .any, .any, .any, .any, .any, .any, .any, .any, .any, .any, .any, .any, .any, .any, .any, .any, .any, .any, .any, .any, .any, .any, .any, .any, .any, .any], [none, some [.hol (.int IntKind.i32), .hol (.sl 53 torTopic)], some [.hol (.int IntKind.i64), .hol (.int IntKind.i64), .hol .bool, .onl 5 (Ty.int IntKind.u8) 1032, .onl 98 tNode 1034]]⟩, [(.exit 2, ⟨[.any, .one (.ptr 1 0), .one (.ptr 2 0), .one (.onl 98 tNode 7), .one (.hol (.int IntKind.i64)), .one (.onl 98 tNode 11), .any, .any, .any, .any, .any, .any, .any, .any, .any, .any, .any, .any, .any, .any, .any, .any, .any, .any, .any, .any, .any, .any, .any, .any, .any, .any, .any, .any, .any, .any, .any, .any, .any, .any, .any, .any, .any, .any, .any, .any, .any, .any, .any, .any, .any, .any, .any, .any, .any, .any, .any, .any, .any, .any, .any, .any, .any, .any, .any, .any, .any, .any, .any, .any, .any, .any, .any, .any, .any, .any, .any, .any, .any, .any, .any, .any, .any, .any, .any, .any, .any], [none, some [.hol (.int IntKind.i32), .hol (.sl 53 torTopic)], some [.hol (.int IntKind.i64), .hol (.int IntKind.i64), .hol .bool, .onl 5 (Ty.int IntKind.u8) 1032, .onl 98 tNode 1034]]⟩)]⟩
-- FzorFull_8 : lozorFull_8.st.den → Tr (DenX lozorFull_8.xs) | ((h11, (h12, (h13, (h14, ())))), ((h15, (h16, ())), ((h17, (h18, (h19, (h20, (h21, ()))))), ())))
abbrev lozorFull_4 : Lo := ⟨⟨[.any, .one (.ptr 1 0), .one (.ptr 2 0), .one (.onl 98 tNode 7), .one (.hol (.int IntKind.i64)), .any, .any, .any, .any, .any, .any, .any, .any, .any, .any, .any, .any, .any, .any, .any, .any, .any, .any, .any, .any, .any, .any, .any, .any, .any, .any, .any, .any, .any, .any, .any, .any, .any, .any, .any, .any, .any, .any, .any, .any, .any, .any, .any, .any, .any, .any, .any, .any, .any, .any, .any, .any, .any, .any, .any, .any, .any, .any, .any, .any, .any, .any, .any, .any, .any, .any, .any, .any, .any, .any, .any, .any, .any, .any, .any, .any, .any, .any, .any, .any, .any, .any], [none, some [.hol (.int IntKind.i32), .hol (.sl 53 torTopic)], some [.hol (.int IntKind.i64), .hol (.int IntKind.i64), .hol .bool, .onl 5 (Ty.int IntKind.u8) 1032, .onl 98 tNode 1034]]⟩, [(.exit 0, ⟨[.any, .one (.ptr 1 0), .one (.ptr 2 0), .one (.onl 98 tNode 7), .any, .any, .any, .any, .any, .any, .any, .any, .any, .any, .any, .any, .any, .any, .any, .any, .any, .any, .any, .any, .any, .any, .any, .any, .any, .any, .any, .any, .any, .any, .any, .any, .any, .any, .any, .any, .any, .any, .any, .any, .any, .any, .any, .any, .any, .any, .any, .any, .any, .any, .any, .any, .any, .any, .any, .any, .any, .any, .any, .any, .any, .any, .any, .any, .any, .any, .any, .any, .any, .any, .any, .any, .any, .any, .any, .any, .any, .any, .any, .any, .any, .any, .any], [none, some [.hol (.int IntKind.i32), .hol (.sl 53 torTopic)], some [.hol (.int IntKind.i64), .hol (.int IntKind.i64), .hol .bool, .onl 5 (Ty.int IntKind.u8) 1032, .onl 98 tNode 1034]]⟩)]⟩
-- FzorFull_4 : lozorFull_4.st.den → Tr (DenX lozorFull_4.xs) | ((h2, (h3, ())), ((h4, (h5, ())), ((h6, (h7, (h8, (h9, (h10, ()))))), ())))
def FzorFull_8 (d : lozorFull_8.st.den) : Tr (DenX lozorFull_8.xs) :=
  .ite ((decide ((0 : Int) ≤ d.1.2.1) && decide (d.1.2.1 < (d.2.1.2.1.length : Int))) && ((decide (d.1.2.2.1.length = 0) && decide (d.1.2.2.2.1 = 0)) && sporLenT (d.2.1.2.1.getD d.1.2.1.toNat torTopic.zero)))
    (.ret (.ret ((), ((d.1.1, (d.1.2.1, ((d.2.1.2.1.getD d.1.2.1.toNat torTopic.zero).2.1.map sporF, ()))), (d.2.1, (d.2.2.1, ())))))) .no
def FzorFull_4 (d : lozorFull_4.st.den) : Tr (DenX lozorFull_4.xs) :=
  .ite ((decide (d.1.1.length = 0) && decide (d.1.2.1 = 0)) && sporLens d.2.1.2.1)
    (.ret (.ret ((), ((d.2.1.2.1.map sporFT, ()), (d.2.1, (d.2.2.1, ())))))) .no
def lpzorFull : Lp := lpT [(4, loHd lozorFull_4 FzorFull_4), (8, loHd lozorFull_8 FzorFull_8)]
def stepzorFull_8 {R : Type} (h11 : List tNode.den) (h12 : Int) (h13 : List tNode.den) (h14 : Int) (h15 : Int) (h16 : List torTopic.den) (h17 : Int) (h18 : Int) (h19 : Bool) (h20 : List Int) (h21 : List tNode.den) (next : List tNode.den → Int → List tNode.den → Int → Int → List torTopic.den → Int → Int → Bool → List Int → List tNode.den → Option R) (out : DenX lozorFull_8.xs → Option R) : Option R := bif decide (0 ≤ h12) && decide (h12 < (↑h16.length : Int)) then bif decide (h14 < (↑(List.length (h16.getD h12.toNat ([], [], ())).snd.fst) : Int)) then bif decide (0 ≤ h12) && decide (h12 < (↑h16.length : Int)) then bif decide (0 ≤ h14) && decide (h14 < (↑(List.length (h16.getD h12.toNat ([], [], ())).snd.fst) : Int)) then bif decide (List.length (List.getD (h16.getD h12.toNat ([], [], ())).snd.fst h14.toNat (0, 0, [], 0, 0, 0, ())).snd.snd.fst ≤ 4294967296) then bif decide (h13.length + 1 ≤ 4294967296) then next (h11) (h12) (h13 ++ [Tre.mk (10, 0, false, [], ()) [Tre.mk (3, IntKind.i64.wrap (List.getD (h16.getD h12.toNat ([], [], ())).snd.fst h14.toNat (0, 0, [], 0, 0, 0, ())).fst, false, [], ()) [], Tre.mk (2, IntKind.i64.wrap (List.getD (h16.getD h12.toNat ([], [], ())).snd.fst h14.toNat (0, 0, [], 0, 0, 0, ())).snd.fst, false, [], ()) [], Tre.mk (spNums (List.getD (h16.getD h12.toNat ([], [], ())).snd.fst h14.toNat (0, 0, [], 0, 0, 0, ())).snd.snd.fst).1 (spNums (List.getD (h16.getD h12.toNat ([], [], ())).snd.fst h14.toNat (0, 0, [], 0, 0, 0, ())).snd.snd.fst).2, Tre.mk (4, (List.getD (h16.getD h12.toNat ([], [], ())).snd.fst h14.toNat (0, 0, [], 0, 0, 0, ())).snd.snd.snd.fst, false, [], ()) [], Tre.mk (4, (List.getD (h16.getD h12.toNat ([], [], ())).snd.fst h14.toNat (0, 0, [], 0, 0, 0, ())).snd.snd.snd.snd.fst, false, [], ()) [], Tre.mk (3, IntKind.i64.wrap (List.getD (h16.getD h12.toNat ([], [], ())).snd.fst h14.toNat (0, 0, [], 0, 0, 0, ())).snd.snd.snd.snd.snd.fst, false, [], ()) []]]) (IntKind.i64.wrap (h14 + 1)) (h15) (h16) (h17) (h18) (h19) (h20) (h21) else none else none else none else none else out (.ret ((), ((h11, (h12, (h13, ()))), ((h15, (h16, ())), ((h17, (h18, (h19, (h20, (h21, ()))))), ()))))) else none
def itzorFull_8 (n : Nat) (h11 : List tNode.den) (h12 : Int) (h13 : List tNode.den) (h14 : Int) (h15 : Int) (h16 : List torTopic.den) (h17 : Int) (h18 : Int) (h19 : Bool) (h20 : List Int) (h21 : List tNode.den) : Option (DenX lozorFull_8.xs) := lpN tt hdzorFull dr lpzorFull 0 Go.Proofs.Tryz.f70 (subL Go.Proofs.Tryz.f70 (topL Go.Proofs.Tryz.f70 0) 0) n (lozorFull_8.st.mk' ((h11, (h12, (h13, (h14, ())))), ((h15, (h16, ())), ((h17, (h18, (h19, (h20, (h21, ()))))), ())))) (decX lozorFull_8.xs)
theorem slzorFull_8 (n : Nat) (h11 : List tNode.den) (h12 : Int) (h13 : List tNode.den) (h14 : Int) (h15 : Int) (h16 : List torTopic.den) (h17 : Int) (h18 : Int) (h19 : Bool) (h20 : List Int) (h21 : List tNode.den) : itzorFull_8 (n + 1) h11 h12 h13 h14 h15 h16 h17 h18 h19 h20 h21 = stepzorFull_8 h11 h12 h13 h14 h15 h16 h17 h18 h19 h20 h21 (itzorFull_8 n) some := by kernel_rfl
def stepzorFull_4 {R : Type} (h2 : List tNode.den) (h3 : Int) (h4 : Int) (h5 : List torTopic.den) (h6 : Int) (h7 : Int) (h8 : Bool) (h9 : List Int) (h10 : List tNode.den) (next : List tNode.den → Int → Int → List torTopic.den → Int → Int → Bool → List Int → List tNode.den → Option R) (out : DenX lozorFull_4.xs → Option R) : Option R := bif decide (h3 < (↑h5.length : Int)) then (FzorFull_8 ((h2, (h3, ([], (0, ())))), ((h4, (h5, ())), ((h6, (h7, (h8, (h9, (h10, ()))))), ())))).run fun y => match y with | .ret ((), ((x43, x44, x45, ()), (x46, x47, ()), (x48, x49, x50, x51, x52, ()), ())) => (bif decide (0 ≤ x44) && decide (x44 < (↑x47.length : Int)) then bif decide (x43.length + 1 ≤ 4294967296) then next (x43 ++ [Tre.mk (10, 0, false, [], ()) [Tre.mk (5, 0, false, (x47.getD x44.toNat ([], [], ())).fst, ()) [], Tre.mk (9, 0, false, [], ()) x45]]) (IntKind.i64.wrap (x44 + 1)) (x46) (x47) (x48) (x49) (x50) (x51) (x52) else none else none) else out (.ret ((), ((h2, ()), ((h4, (h5, ())), ((h6, (h7, (h8, (h9, (h10, ()))))), ())))))
def itzorFull_4 (n : Nat) (h2 : List tNode.den) (h3 : Int) (h4 : Int) (h5 : List torTopic.den) (h6 : Int) (h7 : Int) (h8 : Bool) (h9 : List Int) (h10 : List tNode.den) : Option (DenX lozorFull_4.xs) := lpN tt hdzorFull dr lpzorFull 0 Go.Proofs.Tryz.f70 (topL Go.Proofs.Tryz.f70 0) n (lozorFull_4.st.mk' ((h2, (h3, ())), ((h4, (h5, ())), ((h6, (h7, (h8, (h9, (h10, ()))))), ())))) (decX lozorFull_4.xs)
theorem slzorFull_4 (n : Nat) (h2 : List tNode.den) (h3 : Int) (h4 : Int) (h5 : List torTopic.den) (h6 : Int) (h7 : Int) (h8 : Bool) (h9 : List Int) (h10 : List tNode.den) : itzorFull_4 (n + 1) h2 h3 h4 h5 h6 h7 h8 h9 h10 = stepzorFull_4 h2 h3 h4 h5 h6 h7 h8 h9 h10 (itzorFull_4 n) some := by kernel_rfl
theorem loopzorFull_8 {ts : List torTopic.den} (hw : ∀ t ∈ ts, torTopic.wf t) (hl : ts.length ≤ maxLen) {i : Nat} (hi : i < ts.length) (hp : (ts[i]).2.1.length ≤ 4294967296) (hq : ∀ p ∈ (ts[i]).2.1, p.2.2.1.length ≤ 4294967296) (acc : List Nd) (th : Int) (a' b' : Int) (z' : Bool) (x' : List Int) (l' : List Nd) : ∀ (k j : Nat) (o : List Nd), (ts[i]).2.1.length < j + k → j ≤ (ts[i]).2.1.length → o.length ≤ j →
    itzorFull_8 k acc i o j th ts a' b' z' x' l' = some (.ret ((), ((acc, ((i : Int), (o ++ ((ts[i]).2.1.drop j).map sporF, ()))), ((th, (ts, ())), ((a', (b', (z', (x', (l', ()))))), ()))))) := by
  intro k
  induction k with
  | zero => intro j o h1 h2; omega
  | succ k ih =>
    intro j o h1 h2 h3
    rw [slzorFull_8]
    unfold stepzorFull_8
    refine (bif_true (by simp; omega) _ _).trans ?_
    have hti := hw _ (List.getElem_mem hi)
    simp only [Int.toNat_natCast, getD_lt hi]
    generalize ts[i] = t at hp hq h1 h2 ih hti ⊢
    by_cases hj : j < t.2.1.length
    · refine (bif_true (decide_eq_true (show (j : Int) < (t.2.1.length : Int) by omega)) _ _).trans ?_
      refine (bif_true (by simp; omega) _ _).trans ?_
      refine (bif_true (by simp; omega) _ _).trans ?_
      refine (bif_true (decide_eq_true (show (List.getD t.2.1 j torPart.zero).2.2.1.length ≤ 4294967296 by rw [getD_lt hj]; exact hq _ (List.getElem_mem hj))) _ _).trans ?_
      refine (bif_true (decide_eq_true (show o.length + 1 ≤ 4294967296 by omega)) _ _).trans ?_
      have hpw := hti.2.1.2 _ (List.getElem_mem hj)
      have ih' := ih (j + 1) (o ++ [sporF t.2.1[j]]) (by omega) (by omega) (by simp; omega)
      have hd : t.2.1.drop j = t.2.1[j] :: t.2.1.drop (j + 1) := List.drop_eq_getElem_cons hj
      rw [hd, wrap_i64 (n := (j : Int) + 1) (by omega) (by omega)]
      have hgp : List.getD t.2.1 ((j : Int)).toNat torPart.zero = t.2.1[j] := by simp only [Int.toNat_natCast]; exact getD_lt hj

      refine Eq.trans ?_ (ih'.trans ?_)
      · refine congrArg (fun x => itzorFull_8 k acc i (o ++ [x]) _ th ts a' b' z' x' l') ?_
        have eta : ∀ q : Nd, Tre.mk q.lab q.kids = q := fun q => by cases q; rfl
        simp only [getD_lt hj, eta]
        exact sporF_eq hpw
      · simp only [List.map_cons, List.append_assoc, List.singleton_append]
    · refine (bif_false (decide_eq_false (show ¬ (j : Int) < (t.2.1.length : Int) by omega)) _ _).trans ?_
      rw [List.drop_of_length_le (by omega)]
      simp
theorem loopzorFull_4 {ts : List torTopic.den} (hw : ∀ t ∈ ts, torTopic.wf t) (hl : ts.length ≤ maxLen) (hs : sporLens ts = true) (th : Int) (a' b' : Int) (z' : Bool) (x' : List Int) (l' : List Nd) : ∀ (k j : Nat) (o : List Nd), ts.length < j + k → j ≤ ts.length → o.length ≤ j →
    itzorFull_4 k o j th ts a' b' z' x' l' = some (.ret ((), ((o ++ (ts.drop j).map sporFT, ()), ((th, (ts, ())), ((a', (b', (z', (x', (l', ()))))), ()))))) := by
  intro k
  have hs1 := (Bool.and_eq_true _ _ ▸ hs).1
  have hs2 := (Bool.and_eq_true _ _ ▸ hs).2
  have hs1 : ts.length ≤ 4294967296 := of_decide_eq_true hs1
  induction k with
  | zero => intro j o h1 h2; omega
  | succ k ih =>
    intro j o h1 h2 h3
    rw [slzorFull_4]
    unfold stepzorFull_4
    by_cases hj : j < ts.length
    · refine (bif_true (decide_eq_true (show (j : Int) < (ts.length : Int) by omega)) _ _).trans ?_
      have hgp : ts.getD ((j : Int)).toNat torTopic.zero = ts[j] := by simp only [Int.toNat_natCast]; exact getD_lt hj
      have hpl : sporLenT ts[j] = true := List.all_eq_true.1 hs2 _ (List.getElem_mem hj)
      have c8 : ((decide ((0 : Int) ≤ (j : Int)) && decide ((j : Int) < (ts.length : Int))) && ((decide (([] : List Nd).length = 0) && decide ((0 : Int) = 0)) && sporLenT (ts.getD ((j : Int)).toNat torTopic.zero))) = true := by
        rw [hgp, hpl]; simp; omega
      refine (bif_true c8 _ _).trans ?_
      refine (bif_true (by simp; omega) _ _).trans ?_
      refine (bif_true (decide_eq_true (show o.length + 1 ≤ 4294967296 by omega)) _ _).trans ?_
      rw [wrap_i64 (n := (j : Int) + 1) (by omega) (by omega)]
      have ih' := ih (j + 1) (o ++ [sporFT ts[j]]) (by omega) (by omega) (by simp; omega)
      have hd : ts.drop j = ts[j] :: ts.drop (j + 1) := List.drop_eq_getElem_cons hj
      rw [hd]
      refine Eq.trans ?_ (ih'.trans ?_)
      · refine congrArg (fun x => itzorFull_4 k (o ++ [x]) _ th ts a' b' z' x' l') ?_
        show (ndRow [ndText (ts.getD ((j : Int)).toNat torTopic.zero).1, ndRows ((ts.getD ((j : Int)).toNat torTopic.zero).2.1.map sporF)]) = _
        rw [hgp]; rfl
      · simp only [List.map_cons, List.append_assoc, List.singleton_append]
    · refine (bif_false (decide_eq_false (show ¬ (j : Int) < (ts.length : Int) by omega)) _ _).trans ?_
      rw [List.drop_of_length_le (by omega)]
      simp
def bodyzorFull (a0 : Int) (a1 : List torTopic.den) : Option iozorFull.Res := (FzorFull_4 (([], (0, ())), ((a0, (a1, ())), ((0, (0, (false, ([], ([], ()))))), ())))).run fun y => match y with | .ret ((), ((x70, ()), (x71, x72, ()), (x73, x74, x75, x76, x77, ()), ())) => (some (Out.ret ((Tre.mk (10, 0, false, [], ()) [Tre.mk (3, IntKind.i64.wrap x71, false, [], ()) [], Tre.mk (9, 0, false, [], ()) x70], ()), ())))
theorem runzorFull (a0 : Int) (a1 : List torTopic.den) : Io.run tt hdzorFull dr lpzorFull iozorFull Go.Proofs.Tryz.f70 (((a0, a1, ()), ()), ()) = bodyzorFull a0 a1 := by kernel_rfl
theorem okzorFull : HcOk prog 70 (ioHd iozorFull FzorFull) := by
  refine fn_sound (n := 400) hm (cs := cszorFull) (.cons oktNum (.cons oktRow (.cons oktText (.cons oktRows (.cons okzNs .nil))))) (lp := lpzorFull) (fn := Go.Proofs.Tryz.f70) (by kernel_rfl) (by kernel_rfl) (by kernel_rfl) iozorFull (.step (h0 := loHd lozorFull_4 FzorFull_4) (by kernel_rfl) (loop_sound (n := 400) hm (cs := cszorFull) (.cons oktNum (.cons oktRow (.cons oktText (.cons oktRows (.cons okzNs .nil))))) (lp := lpzorFull) (fn := Go.Proofs.Tryz.f70) (.step (h0 := loHd lozorFull_8 FzorFull_8) (by kernel_rfl) (loop_sound (n := 400) hm (cs := cszorFull) (.cons oktNum (.cons oktRow (.cons oktText (.cons oktRows (.cons okzNs .nil))))) (lp := lpzorFull) (fn := Go.Proofs.Tryz.f70) (.done (by kernel_rfl)) lozorFull_8 FzorFull_8 ?_) (.done (by kernel_rfl))) lozorFull_4 FzorFull_4 ?_) (.done (by kernel_rfl))) FzorFull ?_
  · rintro ⟨⟨(acc : List Nd), (i : Int), (o : List Nd), (j : Int), ⟨⟩⟩, ⟨⟨(th : Int), (ts : List torTopic.den), ⟨⟩⟩, ⟨(a' : Int), (b' : Int), (z' : Bool), (x' : List Int), (l' : List Nd), ⟨⟩⟩, ⟨⟩⟩⟩ y hw hy
    obtain ⟨hg, hy⟩ := Tr.guard hy
    simp only [Bool.and_eq_true, decide_eq_true_eq] at hg
    obtain ⟨⟨h1, h2⟩, ⟨h3, h4⟩, h5⟩ := hg
    have h1 : 0 ≤ i := h1
    have h2 : i < (ts.length : Int) := h2
    have h3 : o = [] := List.eq_nil_of_length_eq_zero h3
    have h4 : j = 0 := h4
    obtain ⟨i, rfl⟩ := toNat_of h1
    subst h3
    subst h4
    have hi : i < ts.length := by omega
    have hgp : ts.getD ((i : Int)).toNat torTopic.zero = ts[i] := by simp only [Int.toNat_natCast]; exact getD_lt hi
    have h5 : sporLenT (ts.getD ((i : Int)).toNat torTopic.zero) = true := h5
    rw [hgp] at h5
    unfold sporLenT at h5
    simp only [Bool.and_eq_true, decide_eq_true_eq] at h5
    obtain ⟨h5, h6⟩ := h5
    have h6 : ∀ p ∈ (ts[i]).2.1, p.2.2.1.length ≤ 4294967296 := fun p hp => of_decide_eq_true (List.all_eq_true.1 h6 p hp)
    have hwt : ts.length ≤ maxLen ∧ ∀ t ∈ ts, torTopic.wf t := by have := hw.2.1.2.1; exact this
    refine ⟨(ts[i]).2.1.length + 1, (loopzorFull_8 hwt.2 hwt.1 hi h5 h6 acc th a' b' z' x' l' ((ts[i]).2.1.length + 1) 0 [] (by omega) (by omega) (by simp)).trans ?_⟩
    rw [← hy, ← hgp, List.drop_zero]
    rfl
  · rintro ⟨⟨(o : List Nd), (j : Int), ⟨⟩⟩, ⟨⟨(th : Int), (ts : List torTopic.den), ⟨⟩⟩, ⟨(a' : Int), (b' : Int), (z' : Bool), (x' : List Int), (l' : List Nd), ⟨⟩⟩, ⟨⟩⟩⟩ y hw hy
    obtain ⟨hg, hy⟩ := Tr.guard hy
    simp only [Bool.and_eq_true, decide_eq_true_eq] at hg
    obtain ⟨⟨h3, h4⟩, h5⟩ := hg
    have h3 : o = [] := List.eq_nil_of_length_eq_zero h3
    have h4 : j = 0 := h4
    have h5 : sporLens ts = true := h5
    subst h3
    subst h4
    have hwt : ts.length ≤ maxLen ∧ ∀ t ∈ ts, torTopic.wf t := by have := hw.2.1.2.1; exact this
    refine ⟨ts.length + 1, (loopzorFull_4 hwt.2 hwt.1 h5 th a' b' z' x' l' (ts.length + 1) 0 [] (by omega) (by omega) (by simp)).trans ?_⟩
    rw [← hy, List.drop_zero]
    rfl
  · rintro ⟨⟨⟨(th : Int), (ts : List torTopic.den), ⟨⟩⟩, ⟨⟩⟩, ⟨⟩⟩ out hw ho
    obtain ⟨hg, ho⟩ := Tr.guard ho
    have hg : sporLens ts = true := hg
    cases ho
    refine (runzorFull th ts).trans ?_
    unfold bodyzorFull
    have c1 : ((decide (([] : List Nd).length = 0) && decide ((0 : Int) = 0)) && sporLens ts) = true := by rw [hg]; rfl
    refine (bif_true c1 _ _).trans ?_
    show _ = some (Out.ret ((sporFull (th, (ts, ())), ()), ()))
    unfold sporFull
    have hth : IntKind.i64.wrap th = th := i64_i32 hw.1.1.1
    show some (Out.ret ((ndRow [ndNum 3 (IntKind.i64.wrap th), ndRows (ts.map sporFT)], ()), ())) = _
    rw [hth]
abbrev iozorOf : Io := ⟨[dNode], [], [], [.dat torMsg true false], none⟩
def FzorOf (d : iozorOf.In) : Tr iozorOf.Res := .ite (decide (spWt d.1.1 ≤ 4294967296)) (.ret (.ret ((sporOM d.1.1, ()), ()))) .no
abbrev cszorOf : List (Nat × Hc) := [(129, ioHd iotAt FtAt)]
def hdzorOf : Hd := hdT cszorOf
abbrev lozorOf_16 : Lo := ⟨⟨[.any, .any, .one (.ptr 2 0), .one (.ptr 3 0), .one (.hol (.sl 98 tNode)), .one (.hol (.int IntKind.i64)), .one (.ptr 6 0), .one (.hol (.sl 98 tNode)), .one (.hol (.int IntKind.i64)), .one (.ptr 9 0), .one (.ptr 10 0), .one (.hol (.sl 98 tNode)), .one (.hol (.int IntKind.i64)), .any, .any, .any, .any, .any, .any, .any, .any, .any, .any, .any, .any, .any, .any, .any, .any, .any, .any, .any, .any, .any, .any, .any, .any, .any, .any, .any, .any, .any, .any, .any, .any, .any, .any, .any, .any, .any, .any, .any, .any, .any, .any, .any, .any, .any, .any, .any, .any, .any, .any, .any, .any, .any, .any, .any, .any, .any, .any, .any, .any, .any, .any, .any, .any, .any, .any, .any, .any, .any, .any, .any, .any, .any, .any, .any, .any, .any, .any, .any, .any, .any, .any, .any, .any, .any, .any, .any, .any, .any, .any, .any, .any], [none, none, some [.hol (.int IntKind.i32), .onl 53 torTopic 1028], some [.hol (.int IntKind.i32), .onl 53 torTopic 1540], none, none, some [.hol .str, .onl 57 torPart 3076], none, none, some [.hol (.int IntKind.i64), .hol (.int IntKind.i64), .hol .bool, .hol (.sl 5 (Ty.int IntKind.u8)), .hol (.sl 98 tNode)], some [.hol (.int IntKind.i32), .hol (.int IntKind.i16), .onl 2 (Ty.int IntKind.i64) 5126, .hol (.int IntKind.i64), .hol (.int IntKind.i64), .hol (.int IntKind.i32)]]⟩, [(.exit 4, ⟨[.any, .any, .one (.ptr 2 0), .one (.ptr 3 0), .one (.hol (.sl 98 tNode)), .one (.hol (.int IntKind.i64)), .one (.ptr 6 0), .one (.hol (.sl 98 tNode)), .one (.hol (.int IntKind.i64)), .one (.ptr 9 0), .one (.ptr 10 0), .any, .any, .any, .any, .any, .any, .any, .any, .any, .any, .any, .any, .any, .any, .any, .any, .any, .any, .any, .any, .any, .any, .any, .any, .any, .any, .any, .any, .any, .any, .any, .any, .any, .any, .any, .any, .any, .any, .any, .any, .any, .any, .any, .any, .any, .any, .any, .any, .any, .any, .any, .any, .any, .any, .any, .any, .any, .any, .any, .any, .any, .any, .any, .any, .any, .any, .any, .any, .any, .any, .any, .any, .any, .any, .any, .any, .any, .any, .any, .any, .any, .any, .any, .any, .any, .any, .any, .any, .any, .any, .any, .any, .any, .any], [none, none, some [.hol (.int IntKind.i32), .onl 53 torTopic 1028], some [.hol (.int IntKind.i32), .onl 53 torTopic 1540], none, none, some [.hol .str, .onl 57 torPart 3076], none, none, some [.hol (.int IntKind.i64), .hol (.int IntKind.i64), .hol .bool, .hol (.sl 5 (Ty.int IntKind.u8)), .hol (.sl 98 tNode)], some [.hol (.int IntKind.i32), .hol (.int IntKind.i16), .onl 2 (Ty.int IntKind.i64) 5126, .hol (.int IntKind.i64), .hol (.int IntKind.i64), .hol (.int IntKind.i32)]]⟩)]⟩
-- FzorOf_16 : lozorOf_16.st.den → Tr (DenX lozorOf_16.xs) | ((h17, (h18, (h19, (h20, (h21, (h22, ())))))), ((h23, (h24, ())), ((h25, (h26, ())), ((h27, (h28, ())), ((h29, (h30, (h31, (h32, (h33, ()))))), ((h34, (h35, (h36, (h37, (h38, (h39, ())))))), ()))))))
abbrev lozorOf_10 : Lo := ⟨⟨[.any, .any, .one (.ptr 2 0), .one (.ptr 3 0), .one (.hol (.sl 98 tNode)), .one (.hol (.int IntKind.i64)), .one (.ptr 6 0), .one (.hol (.sl 98 tNode)), .one (.hol (.int IntKind.i64)), .any, .any, .any, .any, .any, .any, .any, .any, .any, .any, .any, .any, .any, .any, .any, .any, .any, .any, .any, .any, .any, .any, .any, .any, .any, .any, .any, .any, .any, .any, .any, .any, .any, .any, .any, .any, .any, .any, .any, .any, .any, .any, .any, .any, .any, .any, .any, .any, .any, .any, .any, .any, .any, .any, .any, .any, .any, .any, .any, .any, .any, .any, .any, .any, .any, .any, .any, .any, .any, .any, .any, .any, .any, .any, .any, .any, .any, .any, .any, .any, .any, .any, .any, .any, .any, .any, .any, .any, .any, .any, .any, .any, .any, .any, .any, .any], [none, none, some [.hol (.int IntKind.i32), .onl 53 torTopic 1028], some [.hol (.int IntKind.i32), .onl 53 torTopic 1540], none, none, some [.hol .str, .onl 57 torPart 3076]]⟩, [(.exit 2, ⟨[.any, .any, .one (.ptr 2 0), .one (.ptr 3 0), .one (.hol (.sl 98 tNode)), .one (.hol (.int IntKind.i64)), .one (.ptr 6 0), .any, .any, .any, .any, .any, .any, .any, .any, .any, .any, .any, .any, .any, .any, .any, .any, .any, .any, .any, .any, .any, .any, .any, .any, .any, .any, .any, .any, .any, .any, .any, .any, .any, .any, .any, .any, .any, .any, .any, .any, .any, .any, .any, .any, .any, .any, .any, .any, .any, .any, .any, .any, .any, .any, .any, .any, .any, .any, .any, .any, .any, .any, .any, .any, .any, .any, .any, .any, .any, .any, .any, .any, .any, .any, .any, .any, .any, .any, .any, .any, .any, .any, .any, .any, .any, .any, .any, .any, .any, .any, .any, .any, .any, .any, .any, .any, .any, .any], [none, none, some [.hol (.int IntKind.i32), .onl 53 torTopic 1028], some [.hol (.int IntKind.i32), .onl 53 torTopic 1540], none, none, some [.hol .str, .onl 57 torPart 3076]]⟩)]⟩
-- FzorOf_10 : lozorOf_10.st.den → Tr (DenX lozorOf_10.xs) | ((h7, (h8, (h9, (h10, ())))), ((h11, (h12, ())), ((h13, (h14, ())), ((h15, (h16, ())), ()))))
abbrev lozorOf_5 : Lo := ⟨⟨[.any, .any, .one (.ptr 2 0), .one (.ptr 3 0), .one (.hol (.sl 98 tNode)), .one (.hol (.int IntKind.i64)), .any, .any, .any, .any, .any, .any, .any, .any, .any, .any, .any, .any, .any, .any, .any, .any, .any, .any, .any, .any, .any, .any, .any, .any, .any, .any, .any, .any, .any, .any, .any, .any, .any, .any, .any, .any, .any, .any, .any, .any, .any, .any, .any, .any, .any, .any, .any, .any, .any, .any, .any, .any, .any, .any, .any, .any, .any, .any, .any, .any, .any, .any, .any, .any, .any, .any, .any, .any, .any, .any, .any, .any, .any, .any, .any, .any, .any, .any, .any, .any, .any, .any, .any, .any, .any, .any, .any, .any, .any, .any, .any, .any, .any, .any, .any, .any, .any, .any, .any], [none, none, some [.hol (.int IntKind.i32), .onl 53 torTopic 1028], some [.hol (.int IntKind.i32), .onl 53 torTopic 1540]]⟩, [(.exit 0, ⟨[.any, .any, .one (.ptr 2 0), .one (.ptr 3 0), .any, .any, .any, .any, .any, .any, .any, .any, .any, .any, .any, .any, .any, .any, .any, .any, .any, .any, .any, .any, .any, .any, .any, .any, .any, .any, .any, .any, .any, .any, .any, .any, .any, .any, .any, .any, .any, .any, .any, .any, .any, .any, .any, .any, .any, .any, .any, .any, .any, .any, .any, .any, .any, .any, .any, .any, .any, .any, .any, .any, .any, .any, .any, .any, .any, .any, .any, .any, .any, .any, .any, .any, .any, .any, .any, .any, .any, .any, .any, .any, .any, .any, .any, .any, .any, .any, .any, .any, .any, .any, .any, .any, .any, .any, .any, .any, .any, .any, .any, .any, .any], [none, none, some [.hol (.int IntKind.i32), .onl 53 torTopic 1028], some [.hol (.int IntKind.i32), .onl 53 torTopic 1540]]⟩)]⟩
-- FzorOf_5 : lozorOf_5.st.den → Tr (DenX lozorOf_5.xs) | ((h1, (h2, ())), ((h3, (h4, ())), ((h5, (h6, ())), ())))
def FzorOf_16 (d : lozorOf_16.st.den) : Tr (DenX lozorOf_16.xs) :=
  .ite ((decide (d.1.2.2.2.2.2.1 = 0) && decide (d.2.2.2.2.2.1.2.2.1.length = 0)) && decide (d.1.2.2.2.2.1.length ≤ 4294967296))
    (.ret (.ret ((), ((d.1.1, (d.1.2.1, (d.1.2.2.1, (d.1.2.2.2.1, ())))), (d.2.1, (d.2.2.1, (d.2.2.2.1, (d.2.2.2.2.1, ((d.2.2.2.2.2.1.1, (d.2.2.2.2.2.1.2.1, (d.1.2.2.2.2.1.map spN8O, d.2.2.2.2.2.1.2.2.2))), ()))))))))) .no
def FzorOf_10 (d : lozorOf_10.st.den) : Tr (DenX lozorOf_10.xs) :=
  .ite ((decide (d.1.2.2.2.1 = 0) && decide (d.2.2.2.1.2.1.length = 0)) && decide (spWts d.1.2.2.1 ≤ 4294967296))
    (.ret (.ret ((), ((d.1.1, (d.1.2.1, ())), (d.2.1, (d.2.2.1, ((d.2.2.2.1.1, (d.1.2.2.1.map sporO, ())), ()))))))) .no
def FzorOf_5 (d : lozorOf_5.st.den) : Tr (DenX lozorOf_5.xs) :=
  .ite ((decide (d.1.2.1 = 0) && decide (d.2.2.1.2.1.length = 0)) && decide (spWts d.1.1 ≤ 4294967296))
    (.ret (.ret ((), ((), (d.2.1, ((d.2.2.1.1, (d.1.1.map sporOT, ())), ())))))) .no
def lpzorOf : Lp := lpT [(5, loHd lozorOf_5 FzorOf_5), (10, loHd lozorOf_10 FzorOf_10), (16, loHd lozorOf_16 FzorOf_16)]
def stepzorOf_16 {R : Type} (h17 : List (Nd)) (h18 : Int) (h19 : List (Nd)) (h20 : Int) (h21 : List (Nd)) (h22 : Int) (h23 : Int) (h24 : List torTopic.den) (h25 : Int) (h26 : List torTopic.den) (h27 : List Int) (h28 : List torPart.den) (h29 : Int) (h30 : Int) (h31 : Bool) (h32 : List Int) (h33 : List (Nd)) (h34 : Int) (h35 : Int) (h36 : List Int) (h37 : Int) (h38 : Int) (h39 : Int) (next : List (Nd) → Int → List (Nd) → Int → List (Nd) → Int → Int → List torTopic.den → Int → List torTopic.den → List Int → List torPart.den → Int → Int → Bool → List Int → List (Nd) → Int → Int → List Int → Int → Int → Int → Option R) (out : DenX lozorOf_16.xs → Option R) : Option R := bif decide (h22 < (↑h21.length : Int)) then bif decide (0 ≤ h22) && decide (h22 < (↑h21.length : Int)) then bif decide (h36.length + 1 ≤ 4294967296) then next (h17) (h18) (h19) (h20) (h21) (IntKind.i64.wrap (h22 + 1)) (h23) (h24) (h25) (h26) (h27) (h28) (h29) (h30) (h31) (h32) (h33) (h34) (h35) (h36 ++ [(h21.getD h22.toNat (Tre.mk (0, 0, false, [], ()) [])).1.snd.fst]) (h37) (h38) (h39) else none else none else out (.ret ((), ((h17, (h18, (h19, (h20, ())))), ((h23, (h24, ())), ((h25, (h26, ())), ((h27, (h28, ())), ((h29, (h30, (h31, (h32, (h33, ()))))), ((h34, (h35, (h36, (h37, (h38, (h39, ())))))), ()))))))))
def itzorOf_16 (n : Nat) (h17 : List (Nd)) (h18 : Int) (h19 : List (Nd)) (h20 : Int) (h21 : List (Nd)) (h22 : Int) (h23 : Int) (h24 : List torTopic.den) (h25 : Int) (h26 : List torTopic.den) (h27 : List Int) (h28 : List torPart.den) (h29 : Int) (h30 : Int) (h31 : Bool) (h32 : List Int) (h33 : List (Nd)) (h34 : Int) (h35 : Int) (h36 : List Int) (h37 : Int) (h38 : Int) (h39 : Int) : Option (DenX lozorOf_16.xs) := lpN tt hdzorOf dr lpzorOf 0 Go.Proofs.Tryz.f69 (subL Go.Proofs.Tryz.f69 (subL Go.Proofs.Tryz.f69 (topL Go.Proofs.Tryz.f69 0) 0) 0) n (lozorOf_16.st.mk' ((h17, (h18, (h19, (h20, (h21, (h22, ())))))), ((h23, (h24, ())), ((h25, (h26, ())), ((h27, (h28, ())), ((h29, (h30, (h31, (h32, (h33, ()))))), ((h34, (h35, (h36, (h37, (h38, (h39, ())))))), ()))))))) (decX lozorOf_16.xs)
theorem slzorOf_16 (n : Nat) (h17 : List (Nd)) (h18 : Int) (h19 : List (Nd)) (h20 : Int) (h21 : List (Nd)) (h22 : Int) (h23 : Int) (h24 : List torTopic.den) (h25 : Int) (h26 : List torTopic.den) (h27 : List Int) (h28 : List torPart.den) (h29 : Int) (h30 : Int) (h31 : Bool) (h32 : List Int) (h33 : List (Nd)) (h34 : Int) (h35 : Int) (h36 : List Int) (h37 : Int) (h38 : Int) (h39 : Int) : itzorOf_16 (n + 1) h17 h18 h19 h20 h21 h22 h23 h24 h25 h26 h27 h28 h29 h30 h31 h32 h33 h34 h35 h36 h37 h38 h39 = stepzorOf_16 h17 h18 h19 h20 h21 h22 h23 h24 h25 h26 h27 h28 h29 h30 h31 h32 h33 h34 h35 h36 h37 h38 h39 (itzorOf_16 n) some := by kernel_rfl
def stepzorOf_10 {R : Type} (h7 : List (Nd)) (h8 : Int) (h9 : List (Nd)) (h10 : Int) (h11 : Int) (h12 : List torTopic.den) (h13 : Int) (h14 : List torTopic.den) (h15 : List Int) (h16 : List torPart.den) (next : List (Nd) → Int → List (Nd) → Int → Int → List torTopic.den → Int → List torTopic.den → List Int → List torPart.den → Option R) (out : DenX lozorOf_10.xs → Option R) : Option R := bif decide (h10 < (↑h9.length : Int)) then bif decide (0 ≤ h10) && decide (h10 < (↑h9.length : Int)) then (FzorOf_16 ((h7, (h8, (h9, (h10, ((spAt (Tre.mk (h9.getD h10.toNat (Tre.mk (0, 0, false, [], ()) [])).1 (h9.getD h10.toNat (Tre.mk (0, 0, false, [], ()) [])).2) 2).2, (0, ())))))), ((h11, (h12, ())), ((h13, (h14, ())), ((h15, (h16, ())), (((h9.getD h10.toNat (Tre.mk (0, 0, false, [], ()) [])).1.fst, ((h9.getD h10.toNat (Tre.mk (0, 0, false, [], ()) [])).1.snd.fst, ((h9.getD h10.toNat (Tre.mk (0, 0, false, [], ()) [])).1.snd.snd.fst, ((h9.getD h10.toNat (Tre.mk (0, 0, false, [], ()) [])).1.snd.snd.snd.fst, ((h9.getD h10.toNat (Tre.mk (0, 0, false, [], ()) [])).2, ()))))), ((IntKind.i32.wrap (spAt (Tre.mk (h9.getD h10.toNat (Tre.mk (0, 0, false, [], ()) [])).1 (h9.getD h10.toNat (Tre.mk (0, 0, false, [], ()) [])).2) 0).1.snd.fst, (IntKind.i16.wrap (spAt (Tre.mk (h9.getD h10.toNat (Tre.mk (0, 0, false, [], ()) [])).1 (h9.getD h10.toNat (Tre.mk (0, 0, false, [], ()) [])).2) 1).1.snd.fst, ([], (0, (0, (0, ())))))), ()))))))).run fun y => match y with | .ret ((), ((x84, x85, x86, x87, ()), (x88, x89, ()), (x90, x91, ()), (x92, x93, ()), (x94, x95, x96, x97, x98, ()), (x99, x100, x101, x102, x103, x104, ()), ())) => (bif decide (x93.length + 1 ≤ 4294967296) then next (x84) (x85) (x86) (IntKind.i64.wrap (x87 + 1)) (x88) (x89) (x90) (x91) (x92) (x93 ++ [(x99, x100, x101, (spAt (Tre.mk (x94, x95, x96, x97, ()) x98) 3).1.snd.fst, (spAt (Tre.mk (x94, x95, x96, x97, ()) x98) 4).1.snd.fst, IntKind.i32.wrap (spAt (Tre.mk (x94, x95, x96, x97, ()) x98) 5).1.snd.fst, ())]) else none) else none else out (.ret ((), ((h7, (h8, ())), ((h11, (h12, ())), ((h13, (h14, ())), ((h15, (h16, ())), ()))))))
def itzorOf_10 (n : Nat) (h7 : List (Nd)) (h8 : Int) (h9 : List (Nd)) (h10 : Int) (h11 : Int) (h12 : List torTopic.den) (h13 : Int) (h14 : List torTopic.den) (h15 : List Int) (h16 : List torPart.den) : Option (DenX lozorOf_10.xs) := lpN tt hdzorOf dr lpzorOf 0 Go.Proofs.Tryz.f69 (subL Go.Proofs.Tryz.f69 (topL Go.Proofs.Tryz.f69 0) 0) n (lozorOf_10.st.mk' ((h7, (h8, (h9, (h10, ())))), ((h11, (h12, ())), ((h13, (h14, ())), ((h15, (h16, ())), ()))))) (decX lozorOf_10.xs)
theorem slzorOf_10 (n : Nat) (h7 : List (Nd)) (h8 : Int) (h9 : List (Nd)) (h10 : Int) (h11 : Int) (h12 : List torTopic.den) (h13 : Int) (h14 : List torTopic.den) (h15 : List Int) (h16 : List torPart.den) : itzorOf_10 (n + 1) h7 h8 h9 h10 h11 h12 h13 h14 h15 h16 = stepzorOf_10 h7 h8 h9 h10 h11 h12 h13 h14 h15 h16 (itzorOf_10 n) some := by kernel_rfl
def stepzorOf_5 {R : Type} (h1 : List (Nd)) (h2 : Int) (h3 : Int) (h4 : List torTopic.den) (h5 : Int) (h6 : List torTopic.den) (next : List (Nd) → Int → Int → List torTopic.den → Int → List torTopic.den → Option R) (out : DenX lozorOf_5.xs → Option R) : Option R := bif decide (h2 < (↑h1.length : Int)) then bif decide (0 ≤ h2) && decide (h2 < (↑h1.length : Int)) then bif decide (0 ≤ h2) && decide (h2 < (↑h1.length : Int)) then (FzorOf_10 ((h1, (h2, ((spAt (Tre.mk (h1.getD h2.toNat (Tre.mk (0, 0, false, [], ()) [])).1 (h1.getD h2.toNat (Tre.mk (0, 0, false, [], ()) [])).2) 1).2, (0, ())))), ((h3, (h4, ())), ((h5, (h6, ())), (((spAt (Tre.mk (h1.getD h2.toNat (Tre.mk (0, 0, false, [], ()) [])).1 (h1.getD h2.toNat (Tre.mk (0, 0, false, [], ()) [])).2) 0).1.snd.snd.snd.fst, ([], ())), ()))))).run fun y => match y with | .ret ((), ((x123, x124, ()), (x125, x126, ()), (x127, x128, ()), (x129, x130, ()), ())) => (bif decide (x128.length + 1 ≤ 4294967296) then next (x123) (IntKind.i64.wrap (x124 + 1)) (x125) (x126) (x127) (x128 ++ [(x129, x130, ())]) else none) else none else none else out (.ret ((), ((), ((h3, (h4, ())), ((h5, (h6, ())), ())))))
def itzorOf_5 (n : Nat) (h1 : List (Nd)) (h2 : Int) (h3 : Int) (h4 : List torTopic.den) (h5 : Int) (h6 : List torTopic.den) : Option (DenX lozorOf_5.xs) := lpN tt hdzorOf dr lpzorOf 0 Go.Proofs.Tryz.f69 (topL Go.Proofs.Tryz.f69 0) n (lozorOf_5.st.mk' ((h1, (h2, ())), ((h3, (h4, ())), ((h5, (h6, ())), ())))) (decX lozorOf_5.xs)
theorem slzorOf_5 (n : Nat) (h1 : List (Nd)) (h2 : Int) (h3 : Int) (h4 : List torTopic.den) (h5 : Int) (h6 : List torTopic.den) : itzorOf_5 (n + 1) h1 h2 h3 h4 h5 h6 = stepzorOf_5 h1 h2 h3 h4 h5 h6 (itzorOf_5 n) some := by kernel_rfl
theorem loopzorOf_16 {os : List Nd} (hb : os.length ≤ 4294967296) (tops : List Nd) (i : Int) (ps : List Nd) (j : Int) (th0 : Int) (ts0 : List torTopic.den) (th : Int) (ts : List torTopic.den) (tn : List Int) (po : List torPart.den) (x1 x2 : Int) (x3 : Bool) (x4 : List Int) (x5 : List Nd) (d1 d2 d4 d5 d6 : Int) : ∀ (k q : Nat) (o : List Int), os.length < q + k → q ≤ os.length → o.length ≤ q →
    itzorOf_16 k tops i ps j os q th0 ts0 th ts tn po x1 x2 x3 x4 x5 d1 d2 o d4 d5 d6 = some (.ret ((), ((tops, (i, (ps, (j, ())))), ((th0, (ts0, ())), ((th, (ts, ())), ((tn, (po, ())), ((x1, (x2, (x3, (x4, (x5, ()))))), ((d1, (d2, (o ++ (os.drop q).map spN8O, (d4, (d5, (d6, ())))))), ())))))))) := by
  intro k
  induction k with
  | zero => intro q o h1 h2; omega
  | succ k ih =>
    intro q o h1 h2 h3
    rw [slzorOf_16]
    unfold stepzorOf_16
    by_cases hq : q < os.length
    · refine (bif_true (decide_eq_true (show (q : Int) < (os.length : Int) by omega)) _ _).trans ?_
      refine (bif_true (by simp; omega) _ _).trans ?_
      refine (bif_true (decide_eq_true (show o.length + 1 ≤ 4294967296 by omega)) _ _).trans ?_
      rw [wrap_i64 (n := (q : Int) + 1) (by omega) (by omega), List.drop_eq_getElem_cons hq]
      simp only [Int.toNat_natCast, getD_lt hq]
      refine (ih (q + 1) (o ++ [spN8O os[q]]) (by omega) (by omega) (by simp; omega)).trans ?_
      simp only [List.map_cons, List.append_assoc, List.singleton_append]
    · refine (bif_false (decide_eq_false (show ¬ (q : Int) < (os.length : Int) by omega)) _ _).trans ?_
      rw [List.drop_of_length_le (by omega)]
      simp
theorem loopzorOf_10 {ps : List Nd} (hb : spWts ps ≤ 4294967296) (tops : List Nd) (i : Int) (th0 : Int) (ts0 : List torTopic.den) (th : Int) (ts : List torTopic.den) (tn : List Int) : ∀ (k j : Nat) (o : List torPart.den), ps.length < j + k → j ≤ ps.length → o.length ≤ j →
    itzorOf_10 k tops i ps j th0 ts0 th ts tn o = some (.ret ((), ((tops, (i, ())), ((th0, (ts0, ())), ((th, (ts, ())), ((tn, (o ++ (ps.drop j).map sporO, ())), ())))))) := by
  intro k
  have hlen := spWts_len ps
  induction k with
  | zero => intro j o h1 h2; omega
  | succ k ih =>
    intro j o h1 h2 h3
    rw [slzorOf_10]
    unfold stepzorOf_10
    by_cases hj : j < ps.length
    · refine (bif_true (decide_eq_true (show (j : Int) < (ps.length : Int) by omega)) _ _).trans ?_
      have hmem := spWt_mem (List.getElem_mem hj)
      have ih' := ih (j + 1) (o ++ [sporO ps[j]]) (by omega) (by omega) (by simp; omega)
      have hd : ps.drop j = ps[j] :: ps.drop (j + 1) := List.drop_eq_getElem_cons hj
      rw [hd]
      simp only [Int.toNat_natCast, getD_lt hj]
      generalize ps[j] = u at hmem ih' ⊢
      obtain ⟨ul, uk⟩ := u
      refine (bif_true (by simp; omega) _ _).trans ?_
      have hw1 := spAt_wt (Tre.mk ul uk) 2
      have hw2 := spWts_kids (spAt (Tre.mk ul uk) 2)
      have hw3 := spWts_len (spAt (Tre.mk ul uk) 2).kids
      have cA : ((decide ((0 : Int) = 0) && decide (([] : List Int).length = 0)) && decide ((spAt (Tre.mk ul uk) 2).kids.length ≤ 4294967296)) = true := by simp; omega
      refine (bif_true cA _ _).trans ?_
      refine (bif_true (decide_eq_true (show o.length + 1 ≤ 4294967296 by omega)) _ _).trans ?_
      show itzorOf_10 k tops i ps (IntKind.i64.wrap ((j : Int) + 1)) th0 ts0 th ts tn (o ++ [sporO (Tre.mk ul uk)]) = _
      rw [wrap_i64 (n := (j : Int) + 1) (by omega) (by omega)]
      refine ih'.trans ?_
      simp only [List.map_cons, List.append_assoc, List.singleton_append]
    · refine (bif_false (decide_eq_false (show ¬ (j : Int) < (ps.length : Int) by omega)) _ _).trans ?_
      rw [List.drop_of_length_le (by omega)]
      simp
theorem loopzorOf_5 {nds : List Nd} (hb : spWts nds ≤ 4294967296) (th0 : Int) (ts0 : List torTopic.den) (th : Int) : ∀ (k j : Nat) (ts : List torTopic.den), nds.length < j + k → j ≤ nds.length → ts.length ≤ j →
    itzorOf_5 k nds j th0 ts0 th ts = some (.ret ((), ((), ((th0, (ts0, ())), ((th, (ts ++ (nds.drop j).map sporOT, ())), ()))))) := by
  intro k
  have hlen := spWts_len nds
  induction k with
  | zero => intro j o h1 h2; omega
  | succ k ih =>
    intro j ts h1 h2 h3
    rw [slzorOf_5]
    unfold stepzorOf_5
    by_cases hj : j < nds.length
    · refine (bif_true (decide_eq_true (show (j : Int) < (nds.length : Int) by omega)) _ _).trans ?_
      have hmem := spWt_mem (List.getElem_mem hj)
      have ih' := ih (j + 1) (ts ++ [sporOT nds[j]]) (by omega) (by omega) (by simp; omega)
      have hd : nds.drop j = nds[j] :: nds.drop (j + 1) := List.drop_eq_getElem_cons hj
      rw [hd]
      simp only [Int.toNat_natCast, getD_lt hj]
      generalize nds[j] = u at hmem ih' ⊢
      obtain ⟨ul, uk⟩ := u
      refine (bif_true (by simp; omega) _ _).trans ?_
      refine (bif_true (by simp; omega) _ _).trans ?_
      have hw1 := spAt_wt (Tre.mk ul uk) 1
      have hw2 := spWts_kids (spAt (Tre.mk ul uk) 1)
      have cA : ((decide ((0 : Int) = 0) && decide (([] : List torPart.den).length = 0)) && decide (spWts (spAt (Tre.mk ul uk) 1).kids ≤ 4294967296)) = true := by simp; omega
      refine (bif_true cA _ _).trans ?_
      refine (bif_true (decide_eq_true (show ts.length + 1 ≤ 4294967296 by omega)) _ _).trans ?_
      rw [wrap_i64 (n := (j : Int) + 1) (by omega) (by omega)]
      refine ih'.trans ?_
      simp only [List.map_cons, List.append_assoc, List.singleton_append]
    · refine (bif_false (decide_eq_false (show ¬ (j : Int) < (nds.length : Int) by omega)) _ _).trans ?_
      rw [List.drop_of_length_le (by omega)]
      simp
def bodyzorOf (a0 : Nd) : Option iozorOf.Res := (FzorOf_5 (((spAt (Tre.mk a0.1 a0.2) 1).2, (0, ())), ((0, ([], ())), ((IntKind.i32.wrap (spAt (Tre.mk a0.1 a0.2) 0).1.snd.fst, ([], ())), ())))).run fun y => match y with | .ret ((), ((), (x141, x142, ()), (x143, x144, ()), ())) => (some (Out.ret (((x143, x144, ()), ()), ())))
theorem runzorOf (a0 : Nd) : Io.run tt hdzorOf dr lpzorOf iozorOf Go.Proofs.Tryz.f69 ((a0, ()), ()) = bodyzorOf a0 := by kernel_rfl
theorem okzorOf : HcOk prog 69 (ioHd iozorOf FzorOf) := by
  refine fn_sound (n := 400) hm (cs := cszorOf) (.cons oktAt .nil) (lp := lpzorOf) (fn := Go.Proofs.Tryz.f69) (by kernel_rfl) (by kernel_rfl) (by kernel_rfl) iozorOf (.step (h0 := loHd lozorOf_5 FzorOf_5) (by kernel_rfl) (loop_sound (n := 400) hm (cs := cszorOf) (.cons oktAt .nil) (lp := lpzorOf) (fn := Go.Proofs.Tryz.f69) (.step (h0 := loHd lozorOf_10 FzorOf_10) (by kernel_rfl) (loop_sound (n := 400) hm (cs := cszorOf) (.cons oktAt .nil) (lp := lpzorOf) (fn := Go.Proofs.Tryz.f69) (.step (h0 := loHd lozorOf_16 FzorOf_16) (by kernel_rfl) (loop_sound (n := 400) hm (cs := cszorOf) (.cons oktAt .nil) (lp := lpzorOf) (fn := Go.Proofs.Tryz.f69) (.done (by kernel_rfl)) lozorOf_16 FzorOf_16 ?_) (.done (by kernel_rfl))) lozorOf_10 FzorOf_10 ?_) (.done (by kernel_rfl))) lozorOf_5 FzorOf_5 ?_) (.done (by kernel_rfl))) FzorOf ?_
  · rintro ⟨⟨(tops : List Nd), (i : Int), (ps : List Nd), (j : Int), (os : List Nd), (q : Int), ⟨⟩⟩, ⟨⟨(th0 : Int), (ts0 : List torTopic.den), ⟨⟩⟩, ⟨(th : Int), (ts : List torTopic.den), ⟨⟩⟩, ⟨(tn : List Int), (po : List torPart.den), ⟨⟩⟩, ⟨(x1 : Int), (x2 : Int), (x3 : Bool), (x4 : List Int), (x5 : List Nd), ⟨⟩⟩, ⟨(d1 : Int), (d2 : Int), (o : List Int), (d4 : Int), (d5 : Int), (d6 : Int), ⟨⟩⟩, ⟨⟩⟩⟩ y hw hy
    obtain ⟨hg, hy⟩ := Tr.guard hy
    simp only [Bool.and_eq_true, decide_eq_true_eq] at hg
    obtain ⟨⟨h1, h2⟩, h3⟩ := hg
    have h1 : q = 0 := h1
    have h2 : o = [] := List.eq_nil_of_length_eq_zero h2
    have h3 : os.length ≤ 4294967296 := h3
    subst h1
    subst h2
    refine ⟨os.length + 1, (loopzorOf_16 h3 tops i ps j th0 ts0 th ts tn po x1 x2 x3 x4 x5 d1 d2 d4 d5 d6 (os.length + 1) 0 [] (by omega) (by omega) (by simp)).trans ?_⟩
    rw [← hy, List.drop_zero]
    rfl
  · rintro ⟨⟨(tops : List Nd), (i : Int), (ps : List Nd), (j : Int), ⟨⟩⟩, ⟨⟨(th0 : Int), (ts0 : List torTopic.den), ⟨⟩⟩, ⟨(th : Int), (ts : List torTopic.den), ⟨⟩⟩, ⟨(tn : List Int), (o : List torPart.den), ⟨⟩⟩, ⟨⟩⟩⟩ y hw hy
    obtain ⟨hg, hy⟩ := Tr.guard hy
    simp only [Bool.and_eq_true, decide_eq_true_eq] at hg
    obtain ⟨⟨h1, h2⟩, h3⟩ := hg
    have h1 : j = 0 := h1
    have h2 : o = [] := List.eq_nil_of_length_eq_zero h2
    have h3 : spWts ps ≤ 4294967296 := h3
    subst h1
    subst h2
    refine ⟨ps.length + 1, (loopzorOf_10 h3 tops i th0 ts0 th ts tn (ps.length + 1) 0 [] (by omega) (by omega) (by simp)).trans ?_⟩
    rw [← hy, List.drop_zero]
    rfl
  · rintro ⟨⟨(nds : List Nd), (j : Int), ⟨⟩⟩, ⟨⟨(th0 : Int), (ts0 : List torTopic.den), ⟨⟩⟩, ⟨(th : Int), (ts : List torTopic.den), ⟨⟩⟩, ⟨⟩⟩⟩ y hw hy
    obtain ⟨hg, hy⟩ := Tr.guard hy
    simp only [Bool.and_eq_true, decide_eq_true_eq] at hg
    obtain ⟨⟨h1, h2⟩, h3⟩ := hg
    have h1 : j = 0 := h1
    have h2 : ts = [] := List.eq_nil_of_length_eq_zero h2
    have h3 : spWts nds ≤ 4294967296 := h3
    subst h1
    subst h2
    refine ⟨nds.length + 1, (loopzorOf_5 h3 th0 ts0 th (nds.length + 1) 0 [] (by omega) (by omega) (by simp)).trans ?_⟩
    rw [← hy, List.drop_zero]
    rfl
  · rintro ⟨⟨(n : Nd), ⟨⟩⟩, ⟨⟩⟩ out hw ho
    obtain ⟨hg, ho⟩ := Tr.guard ho
    have hg : spWt n ≤ 4294967296 := of_decide_eq_true hg
    cases ho
    refine (runzorOf n).trans ?_
    unfold bodyzorOf
    obtain ⟨nl, nk⟩ := n
    have hw1 := spAt_wt (Tre.mk nl nk) 1
    have hw2 := spWts_kids (spAt (Tre.mk nl nk) 1)
    have c1 : ((decide ((0 : Int) = 0) && decide (([] : List torTopic.den).length = 0)) && decide (spWts (spAt (Tre.mk nl nk) 1).kids ≤ 4294967296)) = true := by simp; omega
    refine (bif_true c1 _ _).trans ?_
    show _ = some (Out.ret ((sporOM (Tre.mk nl nk), ()), ()))
    unfold sporOM
    rfl
abbrev iozorTwin : Io := ⟨[.dat torMsg true false], [], [], [.dat torMsg true false], none⟩
def FzorTwin (d : iozorTwin.In) : Tr iozorTwin.Res := .ite (sporLens d.1.1.2.1 && decide (spWt (sporFull d.1.1) ≤ 4294967296)) (.ret (.ret ((d.1.1, ()), ()))) .no
abbrev cszorTwin : List (Nat × Hc) := [(70, ioHd iozorFull FzorFull), (51, ioHd iotTwin FtTwin), (69, ioHd iozorOf FzorOf)]
def hdzorTwin : Hd := hdT cszorTwin
def lpzorTwin : Lp := lpT []
def bodyzorTwin (a0 : Int) (a1 : List torTopic.den) : Option iozorTwin.Res := bif sporLens a1 then bif decide (spWt (Tre.mk (sporFull (a0, a1, ())).1 (sporFull (a0, a1, ())).2) ≤ 4294967296) then bif decide (spWt (Tre.mk (sporFull (a0, a1, ())).1 (sporFull (a0, a1, ())).2) ≤ 4294967296) then some (Out.ret ((sporOM (Tre.mk (sporFull (a0, a1, ())).1 (sporFull (a0, a1, ())).2), ()), ())) else none else none else none
theorem runzorTwin (a0 : Int) (a1 : List torTopic.den) : Io.run tt hdzorTwin dr lpzorTwin iozorTwin Go.Proofs.Tryz.f19 (((a0, a1, ()), ()), ()) = bodyzorTwin a0 a1 := by kernel_rfl
theorem okzorTwin : HcOk prog 19 (ioHd iozorTwin FzorTwin) := by
  refine fn_sound (n := 400) hm (cs := cszorTwin) (.cons okzorFull (.cons oktTwin (.cons okzorOf .nil))) (lp := lpzorTwin) (fn := Go.Proofs.Tryz.f19) (by kernel_rfl) (by kernel_rfl) (by kernel_rfl) iozorTwin (.done (by kernel_rfl)) FzorTwin ?_
  rintro ⟨⟨m, ⟨⟩⟩, ⟨⟩⟩ out hw ho
  obtain ⟨hg, ho⟩ := Tr.guard ho
  simp only [Bool.and_eq_true, decide_eq_true_eq] at hg
  obtain ⟨h1, h2⟩ := hg
  have h1 : sporLens m.2.1 = true := h1
  have h2 : spWt (sporFull m) ≤ 4294967296 := h2
  cases ho
  have hf := sporOM_full (m := m) hw.1.1
  obtain ⟨th, ts, ⟨⟩⟩ := m
  refine (runzorTwin th ts).trans ?_
  unfold bodyzorTwin
  generalize sporFull (th, (ts, ())) = n at h2 hf ⊢
  obtain ⟨nl, nk⟩ := n
  refine (bif_true h1 _ _).trans ?_
  refine (bif_true (decide_eq_true h2) _ _).trans ?_
  refine (bif_true (decide_eq_true h2) _ _).trans ?_
  exact congrArg (fun x => some (Out.ret ((x, ()), ()))) hf
abbrev iozorAlike : Io := ⟨[.dat torMsg true false, .dat torMsg true false], [], [], [dB], none⟩
def FzorAlike (d : iozorAlike.In) : Tr iozorAlike.Res := .ite (sporLens d.1.1.2.1 && sporLens d.1.2.1.2.1) (.ret (.ret ((spEqT d.1.1 d.1.2.1, ()), ()))) .no
abbrev cszorAlike : List (Nat × Hc) := [(70, ioHd iozorFull FzorFull), (66, ioHd iotAlike FtAlike)]
def hdzorAlike : Hd := hdT cszorAlike
def lpzorAlike : Lp := lpT []
def bodyzorAlike (a0 : Int) (a1 : List torTopic.den) (a2 : Int) (a3 : List torTopic.den) : Option iozorAlike.Res := bif sporLens a1 then bif sporLens a3 then some (Out.ret ((spEqN (Tre.mk (sporFull (a0, a1, ())).1 (sporFull (a0, a1, ())).2) (Tre.mk (sporFull (a2, a3, ())).1 (sporFull (a2, a3, ())).2), ()), ())) else none else none
theorem runzorAlike (a0 : Int) (a1 : List torTopic.den) (a2 : Int) (a3 : List torTopic.den) : Io.run tt hdzorAlike dr lpzorAlike iozorAlike Go.Proofs.Tryz.f22 (((a0, a1, ()), (a2, a3, ()), ()), ()) = bodyzorAlike a0 a1 a2 a3 := by kernel_rfl
theorem okzorAlike : HcOk prog 22 (ioHd iozorAlike FzorAlike) := by
  refine fn_sound (n := 400) hm (cs := cszorAlike) (.cons okzorFull (.cons oktAlike .nil)) (lp := lpzorAlike) (fn := Go.Proofs.Tryz.f22) (by kernel_rfl) (by kernel_rfl) (by kernel_rfl) iozorAlike (.done (by kernel_rfl)) FzorAlike ?_
  rintro ⟨⟨a, b, ⟨⟩⟩, ⟨⟩⟩ out hw ho
  obtain ⟨hg, ho⟩ := Tr.guard ho
  simp only [Bool.and_eq_true] at hg
  obtain ⟨h1, h2⟩ := hg
  have h1 : sporLens a.2.1 = true := h1
  have h2 : sporLens b.2.1 = true := h2
  cases ho
  have hf := sporOM_full (m := a) hw.1.1
  have hf' := sporOM_full (m := b) hw.1.2.1
  have key : spEqN (sporFull a) (sporFull b) = spEqT a b := by
    rw [Bool.eq_iff_iff, spEqN_iff, spEqT_iff]
    exact ⟨fun h => by rw [← hf, ← hf', h], fun h => by rw [h]⟩
  obtain ⟨thA, tsA, ⟨⟩⟩ := a
  obtain ⟨thB, tsB, ⟨⟩⟩ := b
  refine (runzorAlike thA tsA thB tsB).trans ?_
  unfold bodyzorAlike
  generalize sporFull (thA, (tsA, ())) = n at key ⊢
  generalize sporFull (thB, (tsB, ())) = n' at key ⊢
  obtain ⟨nl, nk⟩ := n
  obtain ⟨nl', nk'⟩ := n'
  refine (bif_true h1 _ _).trans ?_
  refine (bif_true h2 _ _).trans ?_
  exact congrArg (fun x => some (Out.ret ((x, ()), ()))) key
abbrev iozorEnc : Io := ⟨[dI, .dat torMsg true false], [], [], [dL, dI], none⟩
@[irreducible] noncomputable def sporW (v : Int) (m : torMsg.den) : List Int × Int := spEW 2 true v (sporFull m)
def FzorEnc (d : iozorEnc.In) : Tr iozorEnc.Res := .ite (sporLens d.1.2.1.2.1 && decide (8 * spWt (sporFull d.1.2.1) ≤ 4294967296)) (.ret (.ret (((sporW d.1.1 d.1.2.1).1, ((sporW d.1.1 d.1.2.1).2, ())), ()))) .no
abbrev cszorEnc : List (Nat × Hc) := [(70, ioHd iozorFull FzorFull), (53, ioHd iotbEW FtbEW)]
def hdzorEnc : Hd := hdT cszorEnc
def lpzorEnc : Lp := lpT []
def bodyzorEnc (a0 : Int) (a1 : Int) (a2 : List torTopic.den) : Option iozorEnc.Res := bif sporLens a2 then bif decide (8 * spWt (Tre.mk (sporFull (a1, a2, ())).1 (sporFull (a1, a2, ())).2) ≤ 4294967296) then some (Out.ret (((spEW 2 true a0 (Tre.mk (sporFull (a1, a2, ())).1 (sporFull (a1, a2, ())).2)).fst, (spEW 2 true a0 (Tre.mk (sporFull (a1, a2, ())).1 (sporFull (a1, a2, ())).2)).snd, ()), ())) else none else none
theorem runzorEnc (a0 : Int) (a1 : Int) (a2 : List torTopic.den) : Io.run tt hdzorEnc dr lpzorEnc iozorEnc Go.Proofs.Tryz.f20 ((a0, (a1, a2, ()), ()), ()) = bodyzorEnc a0 a1 a2 := by kernel_rfl
theorem okzorEnc : HcOk prog 20 (ioHd iozorEnc FzorEnc) := by
  refine fn_sound (n := 400) hm (cs := cszorEnc) (.cons okzorFull (.cons oktbEW .nil)) (lp := lpzorEnc) (fn := Go.Proofs.Tryz.f20) (by kernel_rfl) (by kernel_rfl) (by kernel_rfl) iozorEnc (.done (by kernel_rfl)) FzorEnc ?_
  rintro ⟨⟨(v : Int), m, ⟨⟩⟩, ⟨⟩⟩ out hw ho
  obtain ⟨hg, ho⟩ := Tr.guard ho
  simp only [Bool.and_eq_true, decide_eq_true_eq] at hg
  obtain ⟨h1, h2⟩ := hg
  have h1 : sporLens m.2.1 = true := h1
  have h2 : 8 * spWt (sporFull m) ≤ 4294967296 := h2
  cases ho
  show _ = some (Out.ret (((sporW v m).1, ((sporW v m).2, ())), ()))
  unfold sporW
  obtain ⟨th, ts, ⟨⟩⟩ := m
  refine (runzorEnc v th ts).trans ?_
  unfold bodyzorEnc
  generalize sporFull (th, (ts, ())) = n at h2 ⊢
  obtain ⟨nl, nk⟩ := n
  refine (bif_true h1 _ _).trans ?_
  exact bif_true (decide_eq_true h2) _ _
end
end Go.Proofs.YtjpeefegeobgfaaGreat.Sym
namespace Go.Proofs.YtjpeefegeobgfaaGreat.Sym
open Go
set_option linter.unusedSimpArgs false
set_option linter.unusedVariables false
noncomputable section
def worP (v : Int) (p : torPart.den) : List Int × Int := spSeq (spBE p.1 4, 0) (spSeq (spBE p.2.1 2, 0) (spSeq (if 0 ≤ v ∧ v ≤ 0 then wNs p.2.2.1 else ([], 0)) (spSeq (if 1 ≤ v ∧ v ≤ 3 then (spBE p.2.2.2.1 8, 0) else ([], 0)) (spSeq (if 1 ≤ v ∧ v ≤ 3 then (spBE p.2.2.2.2.1 8, 0) else ([], 0)) (spSeq (if 3 ≤ v ∧ v ≤ 3 then (spBE p.2.2.2.2.2.1 4, 0) else ([], 0)) ([], 0))))))
def worT (v : Int) (t : torTopic.den) : List Int × Int := spSeq (spTxt t.1) (spSeq (spArrW (worP v) t.2.1) ([], 0))
def worM (v : Int) (m : torMsg.den) : List Int × Int := spSeq (if 2 ≤ v ∧ v ≤ 3 then (spBE m.1 4, 0) else ([], 0)) (spSeq (spArrW (worT v) m.2.1) (([], 0)))
theorem Wri.orP (v : Int) (p : torPart.den) : Wri (worP v p) (sporPE v p) := (Wri.put p.1 4).seq ((Wri.put p.2.1 2).seq ((Wri.hasNs v 0 0 p.2.2.1).seq ((Wri.hasE v 1 3 p.2.2.2.1 8).seq ((Wri.hasE v 1 3 p.2.2.2.2.1 8).seq ((Wri.hasE v 3 3 p.2.2.2.2.2.1 4).seq (Wri.nop))))))
theorem Wri.orT (v : Int) (t : torTopic.den) : Wri (worT v t) (sporTE v t) := (Wri.str _).seq ((Wri.items fun p hp => Wri.orP v p).seq Wri.nop)
abbrev forP : Fd := fld [112, 97, 114, 116] 10 0 3 [fld [105, 110, 100, 101, 120] 3 0 3 [], fld [99, 111, 100, 101] 2 0 3 [], fld [111, 102, 102, 115, 101, 116, 115] 9 0 0 [fld [111, 102, 102, 115, 101, 116] 4 0 0 []], fld [116, 105, 109, 101] 4 1 3 [], fld [111, 102, 102, 115, 101, 116] 4 1 3 [], fld [101, 112, 111, 99, 104] 3 3 3 []]
abbrev forT : Fd := fld [116, 111, 112, 105, 99] 10 0 3 [fld [110, 97, 109, 101] 5 0 3 [], fld [112, 97, 114, 116, 115] 9 0 3 [forP]]
theorem spW_orP {v : Int} {p : torPart.den} (hv : 0 ≤ v ∧ v ≤ 3) (h : torPart.wf p) : spW forP v (sporF p) = worP v p := by
  unfold sporF worP
  rw [spW_row, spWZ_has (spHas_in hv.1 hv.2), spWZ_has (spHas_in hv.1 hv.2), spWZ_o, spWZ_o, spWZ_o, spWZ_o, spWZip_nl, spW_nums, spW_num (by decide) (w := 4) rfl (spFits_i32 h.1), spW_num (by decide) (w := 2) rfl (spFits_i16 h.2.1), spW_num (by decide) (w := 4) rfl (spFits_i32 h.2.2.2.2.2.1), spW_num (by decide) (w := 8) rfl (spFits_i64 p.2.2.2.1), spW_num (by decide) (w := 8) rfl (spFits_i64 p.2.2.2.2.1)]
  try rfl
theorem spW_orT {v : Int} {t : torTopic.den} (hv : 0 ≤ v ∧ v ≤ 3) (h : torTopic.wf t) : spW forT v (sporFT t) = worT v t := by
  unfold sporFT worT
  rw [spW_row, spWZ_has (spHas_in hv.1 hv.2), spWZ_has (spHas_in hv.1 hv.2), spWZip_nl, spW_text, spW_rows, spArrW_congr fun p hp => spW_orP hv (h.2.1.2 p hp)]
def okorP (v : Int) (p : torPart.den) : Bool := (if 0 ≤ v ∧ v ≤ 0 then true else ((p.2.2.1.length : Int) == 0)) && ((if 1 ≤ v ∧ v ≤ 3 then true else (p.2.2.2.1 == 0)) && ((if 1 ≤ v ∧ v ≤ 3 then true else (p.2.2.2.2.1 == 0)) && ((if 3 ≤ v ∧ v ≤ 3 then true else (p.2.2.2.2.2.1 == 0)))))
theorem spCut_orP {v : Int} {p : torPart.den} (hv : 0 ≤ v ∧ v ≤ 3) : (spCut forP v (sporF p)).2 = okorP v p := by
  unfold sporF okorP
  rw [spCut_row, spCZ_has (spHas_in hv.1 hv.2), spCZ_has (spHas_in hv.1 hv.2), spCZ_opt, spCZ_opt, spCZ_opt, spCZ_opt, spCZ_nil, spCut_nums, spCut_leaf (by decide) (by decide), spCut_leaf (by decide) (by decide), spCut_leaf (by decide) (by decide), spCut_leaf (by decide) (by decide), spCut_leaf (by decide) (by decide), spZero_nums, spZero_num, spZero_num, spZero_num]
  simp only [Bool.true_and, Bool.and_true]
theorem spCut_orT {v : Int} {t : torTopic.den} (hv : 0 ≤ v ∧ v ≤ 3) : (spCut forT v (sporFT t)).2 = t.2.1.all (okorP v) := by
  unfold sporFT
  rw [spCut_row, spCZ_has (spHas_in hv.1 hv.2), spCZ_has (spHas_in hv.1 hv.2), spCZ_nil, spCut_leaf (by decide) (by decide), spCut_rows]
  simp only [spCut_orP hv, Bool.true_and, Bool.and_true]
theorem spWhole_or (m : torMsg.den) : spWholeZ spT2p [ndNum 3 m.1, ndRows (m.2.1.map sporFT)] := by
  unfold spT2p spTopics
  refine spWhole_cons (spWhole_leaf (by decide) (by decide)) (spWhole_cons ?_ spWhole_nil)
  refine spWhole_rows _ _ fun t => spWhole_row rfl (spWhole_cons (spWhole_leaf (by decide) (by decide)) (spWhole_cons ?_ spWhole_nil))
  exact spWhole_rows _ _ fun p => spWhole_row rfl (spWhole_cons (spWhole_leaf (by decide) (by decide)) (spWhole_cons (spWhole_leaf (by decide) (by decide)) (spWhole_cons (spWhole_nums _) (spWhole_cons (spWhole_leaf (by decide) (by decide)) (spWhole_cons (spWhole_leaf (by decide) (by decide)) (spWhole_cons (spWhole_leaf (by decide) (by decide)) spWhole_nil))))))
def okorM (v : Int) (m : torMsg.den) : Bool := (if 2 ≤ v ∧ v ≤ 3 then true else (m.1 == 0)) && ((m.2.1.all fun t => t.2.1.all (okorP v)))
theorem sporLP_lk {e v : Int} {p : torPart.den} : sporLP v p (e, (false, ([] : List Int))) = (spLk e (okorP v p), (false, [])) := by
  unfold sporLP okorP
  rw [spLacks_lk, spLacks_lk, spLacks_lk, ite_and3, spLk_and, spLk_and, Bool.and_assoc]
theorem sporLPs_lk {v : Int} : ∀ {ps : List torPart.den} {e : Int}, sporLPs v ps (e, (false, ([] : List Int))) = (spLk e (ps.all (okorP v)), (false, []))
  | [], e => by rw [List.all_nil, spLk_true]; rfl
  | p :: ps, e => by
    show sporLPs v ps (sporLP v p (e, (false, []))) = _
    rw [sporLP_lk, sporLPs_lk, spLk_and, List.all_cons]
theorem sporLR_lk {v : Int} : ∀ {ts : List torTopic.den} {e : Int}, sporLR v ts (e, (false, ([] : List Int))) = (spLk e (ts.all fun t => t.2.1.all (okorP v)), (false, []))
  | [], e => by rw [List.all_nil, spLk_true]; rfl
  | t :: ts, e => by
    show sporLR v ts (sporLPs v t.2.1 (e, (false, []))) = _
    rw [sporLPs_lk, sporLR_lk, spLk_and, List.all_cons]
theorem cz_or {v : Int} {m : torMsg.den} (hv : 0 ≤ v ∧ v ≤ 3) : (spCZip v spT2p [ndNum 3 m.1, ndRows (m.2.1.map sporFT)]).2 = okorM v m := by
  unfold spT2p spTopics okorM
  rw [spCZ_opt, spCZ_has (spHas_in hv.1 hv.2), spCZ_nil, spCut_leaf (by decide) (by decide), spCut_rows, spZero_num]
  simp only [spCut_orT hv, Bool.true_and, Bool.and_true, Bool.and_assoc]
theorem wz_or {v : Int} {m : torMsg.den} (hv : 0 ≤ v ∧ v ≤ 3) (hm : torMsg.wf m) : spWZip v spT2p [ndNum 3 m.1, ndRows (m.2.1.map sporFT)] = worM v m := by
  unfold spT2p spTopics worM
  rw [spWZ_o, spWZ_has (spHas_in hv.1 hv.2), spWZip_nl, spW_num (by decide) (w := 4) rfl (spFits_i32 hm.1), spW_rows, spArrW_congr fun t ht => spW_orT hv (hm.2.1.2 t ht)]
  try rfl
theorem or_law {v : Int} {m : torMsg.den} (hm : torMsg.wf m) : (spDoneO (sporE v m), spDoneE (sporE v m)) = sporW v m := by
  unfold sporW sporFull
  rw [spEW_eq (t := spT2p) rfl spChk_2p rfl (spWhole_or m)]
  unfold sporE
  rw [spLacks_lk, sporLR_lk, spLk_and]
  have hr : Wri (worM v m) _ := (Wri.hasE v 2 3 m.1 4).seq ((Wri.items fun t ht => Wri.orT v t).seq (Wri.nop))
  refine (hr.done _).trans ?_
  unfold spNewE
  by_cases hv : v < 0 ∨ 3 < v
  · rw [if_pos hv, if_pos hv]
    exact if_pos (by simp [spLk])
  rw [if_neg hv, if_neg hv]
  have hv' : 0 ≤ v ∧ v ≤ 3 := by omega
  rw [cz_or hv', wz_or hv' hm]
  show (if spLk 0 (okorM v m) ≠ 0 then _ else _) = _
  cases hz : okorM v m
  · exact (if_pos (by decide)).trans (show ([], spLk 0 (okorM v m)) = _ by rw [hz]; rfl)
  · exact (if_neg (by decide)).trans (if_neg (by decide)).symm
--@alias eorMsg leat/offsets.EncodeRep
abbrev ioeorMsg : Io := ioorMsg
def FeorMsg (d : ioeorMsg.In) : Tr ioeorMsg.Res := .ret (.ret (((sporW d.1.1 d.1.2.1).1, ((sporW d.1.1 d.1.2.1).2, ())), ()))
theorem okeorMsg : HcOk prog 21 (ioHd ioeorMsg FeorMsg) := by
  refine HcOk.weakW okorMsg ?_
  rintro ⟨⟨(v : Int), m, ⟨⟩⟩, ⟨⟩⟩ y hw hy
  rw [← hy]
  have h := or_law (v := v) (m := m) hw.1.2.1
  show some (Out.ret ((spDoneO (sporE v m), (spDoneE (sporE v m), ())), ())) = some (Out.ret (((sporW v m).1, ((sporW v m).2, ())), ()))
  rw [← h]
theorem okorP_iff {v : Int} {p : torPart.den} (h : okorP v p = true) : (¬ (0 ≤ v ∧ v ≤ 0) → p.2.2.1 = []) ∧ (¬ (1 ≤ v ∧ v ≤ 3) → p.2.2.2.1 = 0) ∧ (¬ (1 ≤ v ∧ v ≤ 3) → p.2.2.2.2.1 = 0) ∧ (¬ (3 ≤ v ∧ v ≤ 3) → p.2.2.2.2.2.1 = 0) := by
  unfold okorP at h
  simp only [Bool.and_eq_true] at h
  exact ⟨fun hv => by have h1 := h.1; rw [if_neg hv] at h1; simpa using h1, fun hv => by have h1 := h.2.1; rw [if_neg hv] at h1; simpa using h1, fun hv => by have h1 := h.2.2.1; rw [if_neg hv] at h1; simpa using h1, fun hv => by have h1 := h.2.2.2; rw [if_neg hv] at h1; simpa using h1⟩
theorem okorM_iff {v : Int} {m : torMsg.den} (h : okorM v m = true) : (¬ (2 ≤ v ∧ v ≤ 3) → m.1 = 0) ∧ (m.2.1.all fun t => t.2.1.all (okorP v)) = true := by
  unfold okorM at h
  simp only [Bool.and_eq_true] at h
  exact ⟨fun hv => by have h1 := h.1; rw [if_neg hv] at h1; simpa using h1, h.2⟩
theorem Rd.orP {b : List Int} {p : torPart.den} {v : Int} (h : torPart.wf p) (hk : okorP v p = true) : Rd b p (worP v p) (sporPD v b) :=
  (Rd.seq (fun a r => (a, r)) (Rd.num (wrapBE_i32 h.1)) (Rd.seq (fun a r => (a, r)) (Rd.num (wrapBE_i16 h.2.1)) (Rd.seq (fun a r => (a, r)) (Rd.optNs h.2.2.1.2 (okorP_iff hk).1) (Rd.seq (fun a r => (a, r)) (Rd.opt (wrapBE_i64 h.2.2.2.1) (okorP_iff hk).2.1) (Rd.seq (fun a r => (a, r)) (Rd.opt (wrapBE_i64 h.2.2.2.2.1) (okorP_iff hk).2.2.1) (Rd.seq (fun a r => (a, r)) (Rd.opt (wrapBE_i32 h.2.2.2.2.2.1) (okorP_iff hk).2.2.2) (Rd.nop b ()))))))).congr fun s => by unfold sporPD; rfl
theorem Rd.orT {b : List Int} {t : torTopic.den} {v : Int} (h : torTopic.wf t) (hk : t.2.1.all (okorP v) = true) : Rd b t (worT v t) (sporTD v b) :=
  (Rd.seq (fun a r => (a, r)) (Rd.txt t.1) (Rd.seq (fun a r => (a, r)) (Rd.list fun p hp => Rd.orP (h.2.1.2 p hp) (List.all_eq_true.1 hk p hp)) (Rd.nop b ()))).congr fun s => by unfold sporTD sporPsD; rfl
theorem Rd.orM {b : List Int} {m : torMsg.den} {v : Int} (h : torMsg.wf m) (hk0 : okorM v m = true) : Rd b m (worM v m) (sporDB v b) :=
  have hk := (okorM_iff hk0).2
  (Rd.seq (fun a r => (a, r)) (Rd.opt (wrapBE_i32 h.1) (okorM_iff hk0).1) (Rd.seq (fun a r => (a, r)) (Rd.list fun t ht => Rd.orT (h.2.1.2 t ht) (List.all_eq_true.1 hk t ht)) (Rd.nop b ()))).congr fun s => by unfold sporDB sporTsD; rfl
theorem or_wrote {v : Int} {m : torMsg.den} (hm : torMsg.wf m) (h : (sporW v m).2 = 0) : 0 ≤ v ∧ v ≤ 3 ∧ okorM v m = true ∧ (worM v m).2 = 0 ∧ (sporW v m).1 = (worM v m).1 ∧ (sporW v m).1.length ≤ 130048 := by
  have hlen : (sporW v m).1.length ≤ 130048 := by unfold sporW; exact spEW_len _ _ _ _
  unfold sporW sporFull at h hlen ⊢
  rw [spEW_eq (t := spT2p) rfl spChk_2p rfl (spWhole_or m)] at h hlen ⊢
  by_cases hv : v < 0 ∨ 3 < v
  · rw [if_pos hv] at h; cases h
  rw [if_neg hv] at h hlen ⊢
  have hv' : 0 ≤ v ∧ v ≤ 3 := by omega
  rw [cz_or hv', wz_or hv' hm] at h hlen ⊢
  generalize hz : okorM v m = z at h hlen ⊢
  cases z with
  | false => rw [if_pos rfl] at h; cases h
  | true =>
    rw [if_neg (by decide)] at h hlen ⊢
    by_cases h1 : (worM v m).2 = 0
    · rw [if_neg (by simpa using h1)] at h hlen ⊢
      by_cases h2 : 130048 < (worM v m).1.length
      · rw [if_pos h2] at h; cases h
      · rw [if_neg h2] at h hlen ⊢
        exact ⟨hv'.1, hv'.2, rfl, h1, rfl, hlen⟩
    · rw [if_pos h1] at h
      exact absurd h h1
theorem or_back {v : Int} {m : torMsg.den} (hm : torMsg.wf m) (h : (sporW v m).2 = 0) :
    sporD v (sporW v m).1 = (m, 0) ∧ (sporD v ((sporW v m).1.take ((sporW v m).1.length - 1))).2 = 1 := by
  obtain ⟨h1, h2, h3, h4, h5, h6⟩ := or_wrote hm h
  rw [h5] at h6 ⊢
  generalize hr : (worM v m).1 = r at h6 ⊢
  have hne : r ≠ [] := by
    intro e
    have h4c := h4
    have hl' : (worM v m).1.length = 0 := by rw [hr, e]; rfl
    unfold worM at h4c hl'
    have s0 := spSeq_zero h4c
    have l0 := congrArg List.length s0.2.2
    rw [List.length_append] at l0
    have s1 := spSeq_zero s0.2.1
    have l1 := congrArg List.length s1.2.2
    rw [List.length_append] at l1
    have h8 := spArrW_len s1.1
    omega
  refine ⟨?_, ?_⟩
  · have key := (Rd.orM (b := r) hm h3 h4).full 0 [] (Nat.zero_le _) (by rw [hr]; simp)
    have key : sporDB v r (0, 0) = (m, (0, ((0 + (worM v m).1.length : Nat) : Int))) := key
    rw [hr] at key
    unfold sporD
    rw [if_pos ⟨h1, h2, by omega⟩, key]
    have he : spDEnd r (0, ((0 + r.length : Nat) : Int)) = 0 := by
      unfold spDEnd spEnd
      rw [if_pos rfl, if_neg (by omega)]
    rw [if_pos he]
  · obtain ⟨t, ht, htr⟩ := take_last hne
    have key := (Rd.orM (b := r.take (r.length - 1)) hm h3 h4).short 0 t (Nat.zero_le _) ht (by rw [hr]; exact htr)
    have key : (sporDB v (r.take (r.length - 1)) (0, 0)).2.1 = 1 := key
    unfold sporD
    rw [if_pos ⟨h1, h2, by rw [List.length_take]; omega⟩]
    have he : spDEnd (r.take (r.length - 1)) (sporDB v (r.take (r.length - 1)) (0, 0)).2 = 1 := by
      unfold spDEnd
      rw [if_neg (by rw [key]; decide)]; exact key
    rw [he, if_neg (by decide)]
end
end Go.Proofs.YtjpeefegeobgfaaGreat.Sym
namespace Go.Proofs.YtjpeefegeobgfaaGreat.Sym
open Go
set_option linter.unusedSimpArgs false
set_option linter.unusedVariables false
noncomputable section
abbrev iooalive : Io := ⟨[], [], [], [dB], none⟩
def Foalive (d : iooalive.In) : Tr iooalive.Res := .ret (.ret ((true, ()), ()))
abbrev csoalive : List (Nat × Hc) := [(16, ioHd iooqMsg FoqMsg), (21, ioHd ioorMsg ForMsg), (27, ioHd iodoqMsg FdoqMsg), (25, ioHd iodorMsg FdorMsg), (49, ioHd ioSame FSame)]
def hdoalive : Hd := hdT csoalive
def lpoalive : Lp := lpT []
def bodyoalive : Option iooalive.Res := bif (spoqD 1 [255, 255, 255, 255, 0, 0, 0, 0]).snd != 0 then some (Out.ret ((false, ()), ())) else bif (sporD 2 [0, 0, 0, 5, 0, 0, 0, 0]).snd != 0 then some (Out.ret ((false, ()), ())) else bif (spoqD 1 [255, 255, 255, 255, 0, 0, 0, 0]).fst.fst != -1 then some (Out.ret ((false, ()), ())) else bif (sporD 2 [0, 0, 0, 5, 0, 0, 0, 0]).fst.fst != 5 then some (Out.ret ((false, ()), ())) else some (Out.ret ((decide ([0, 0, 0, 5, 0, 0, 0, 0] = [0, 0, 0, 5, 0, 0, 0, 0]), ()), ()))
theorem runoalive : Io.run tt hdoalive dr lpoalive iooalive Go.Proofs.Tryz.f13 ((), ()) = bodyoalive  := by kernel_rfl
theorem okoalive : HcOk prog 13 (ioHd iooalive Foalive) := by
  refine fn_sound (n := 400) hm (cs := csoalive) (.cons okoqMsg (.cons okorMsg (.cons okdoqMsg (.cons okdorMsg (.cons okSame .nil))))) (lp := lpoalive) (fn := Go.Proofs.Tryz.f13) (by kernel_rfl) (by kernel_rfl) (by kernel_rfl) iooalive (.done (by kernel_rfl)) Foalive ?_
  rintro ⟨⟨⟩, ⟨⟩⟩ out hw ho
  cases ho
  refine runoalive.trans ?_
  kernel_rfl
end
end Go.Proofs.YtjpeefegeobgfaaGreat.Sym
namespace Go.Proofs.YtjpeefegeobgfaaGreat.Sym
open Go
set_option linter.unusedSimpArgs false
set_option linter.unusedVariables false
noncomputable section
def spSmoq (m : toqMsg.den) : Bool := spoqLens m.2.2.1 && decide (8 * spWt (spoqFull m) ≤ 4294967296)
def spSmor (m : torMsg.den) : Bool := sporLens m.2.1 && decide (8 * spWt (sporFull m) ≤ 4294967296)
end
end Go.Proofs.YtjpeefegeobgfaaGreat.Sym
namespace Go.Proofs.YtjpeefegeobgfaaGreat.Sym
open Go
set_option linter.unusedSimpArgs false
set_option linter.unusedVariables false
noncomputable section
end
end Go.Proofs.YtjpeefegeobgfaaGreat.Sym
namespace Go.Proofs.YtjpeefegeobgfaaGreat.Sym
open Go
set_option linter.unusedSimpArgs false
set_option linter.unusedVariables false
noncomputable section
end
end Go.Proofs.YtjpeefegeobgfaaGreat.Sym
namespace Go.Proofs.YtjpeefegeobgfaaGreat.Sym
open Go
set_option linter.unusedSimpArgs false
set_option linter.unusedVariables false
noncomputable section
theorem sum_ones {k : IntKind} : ∀ b : List Int, (List.map (dsz (.int k)) b).sum = b.length
  | [] => rfl
  | c :: b => by
    have := sum_ones (k := k) b
    rw [List.map_cons, List.sum_cons, this, List.length_cons]
    show 1 + _ = _
    omega
theorem wts_map {T : Ty} {F : T.den → Nd} {c : Nat} : ∀ {l : List T.den}, (∀ x ∈ l, spWt (F x) ≤ c * dsz T x) → spWts (l.map F) ≤ c * (l.map (dsz T)).sum
  | [], _ => by rw [List.map_nil, spWts_nil]; exact Nat.zero_le _
  | x :: l, h => by
    have h1 := h x (by simp)
    have h2 := wts_map (l := l) fun y hy => h y (List.mem_cons_of_mem _ hy)
    rw [List.map_cons, spWts_cons, List.map_cons, List.sum_cons, Nat.mul_add]
    omega
theorem sum_mem {T : Ty} {x : T.den} : ∀ {l : List T.den}, x ∈ l → dsz T x ≤ (l.map (dsz T)).sum
  | y :: l, h => by
    rw [List.map_cons, List.sum_cons]
    rcases List.mem_cons.1 h with rfl | h
    · omega
    · have := sum_mem (l := l) h; omega
theorem sum_len {T : Ty} (hT : ∀ x : T.den, 1 ≤ dsz T x) : ∀ l : List T.den, l.length ≤ (l.map (dsz T)).sum
  | [] => Nat.zero_le _
  | x :: l => by
    have := sum_len hT l
    have := hT x
    rw [List.map_cons, List.sum_cons, List.length_cons]; omega
theorem spWt_num (k n : Int) : spWt (ndNum k n) = 1 := by rw [spWt_eq]; show 1 + 0 + spWts [] = 1; rw [spWts_nil]
theorem spWt_text (x : List Int) : spWt (ndText x) = 1 + x.length := by rw [spWt_eq]; show 1 + x.length + spWts [] = _; rw [spWts_nil]; rfl
theorem spWt_row (l : List Nd) : spWt (ndRow l) = 1 + spWts l := by rw [spWt_eq]; show 1 + 0 + spWts l = _; omega
theorem spWt_rows (l : List Nd) : spWt (ndRows l) = 1 + spWts l := by rw [spWt_eq]; show 1 + 0 + spWts l = _; omega
end
end Go.Proofs.YtjpeefegeobgfaaGreat.Sym
namespace Go.Proofs.YtjpeefegeobgfaaGreat.Sym
open Go
set_option linter.unusedSimpArgs false
set_option linter.unusedVariables false
noncomputable section
theorem dsz_oqP (p : toqPart.den) : dsz toqPart p = 4 := rfl
theorem dsz_oqT (t : toqTopic.den) : dsz toqTopic t = (t.1.length + 1) + (((t.2.1.map (dsz toqPart)).sum + 1) + 0) := rfl
theorem dsz_oqM (m : toqMsg.den) : dsz toqMsg m = 1 + (1 + (((m.2.2.1.map (dsz toqTopic)).sum + 1) + (0))) := rfl
theorem wt_oqP (p : toqPart.den) : spWt (spoqF p) ≤ 3 * dsz toqPart p := by
  rw [dsz_oqP]
  show spWt (ndRow [ndNum 3 p.1, ndNum 3 p.2.1, ndNum 4 p.2.2.1, ndNum 3 p.2.2.2.1]) ≤ _
  rw [spWt_row, spWts_cons, spWts_cons, spWts_cons, spWts_cons, spWts_nil, spWt_num, spWt_num, spWt_num, spWt_num]
  omega
theorem wt_oqT (t : toqTopic.den) : spWt (spoqFT t) ≤ 3 * dsz toqTopic t := by
  have h := wts_map (T := toqPart) (F := spoqF) (c := 3) (l := t.2.1) fun p _ => wt_oqP p
  rw [dsz_oqT]
  show spWt (ndRow [ndText t.1, ndRows (t.2.1.map spoqF)]) ≤ _
  rw [spWt_row, spWts_cons, spWts_cons, spWts_nil, spWt_text, spWt_rows]
  omega
theorem oq_bulk {m : toqMsg.den} (h : dsz toqMsg m ≤ 1048576) : spSmoq m = true := by
  have h1 := wts_map (T := toqTopic) (F := spoqFT) (c := 3) (l := m.2.2.1) fun t _ => wt_oqT t
  have h2 := sum_len (T := toqTopic) (fun t => by rw [dsz_oqT]; omega) m.2.2.1
  rw [dsz_oqM] at h
  have hp : ∀ t ∈ m.2.2.1, t.2.1.length ≤ 1048576 := fun t htm => by
    have a1 := sum_mem (T := toqTopic) htm
    rw [dsz_oqT] at a1
    have a2 := sum_len (T := toqPart) (fun p => by rw [dsz_oqP]; omega) t.2.1
    omega
  unfold spSmoq
  simp only [Bool.and_eq_true, decide_eq_true_eq]
  refine ⟨?_, ?_⟩
  · unfold spoqLens
    simp only [Bool.and_eq_true, decide_eq_true_eq]
    refine ⟨by omega, List.all_eq_true.2 fun t htm => decide_eq_true ?_⟩
    have := hp t htm
    omega
  · unfold spoqFull
    show 8 * spWt (ndRow [ndNum 3 m.1, ndNum 1 m.2.1, ndRows (m.2.2.1.map spoqFT)]) ≤ _
    rw [spWt_row, spWts_cons, spWts_cons, spWts_cons, spWts_nil, spWt_num, spWt_num, spWt_rows]
    omega
theorem dsz_ns (b : List Int) : dsz (.sl 2 (.int .i64)) b = b.length + 1 := by
  show (List.map (dsz (.int .i64)) b).sum + 1 = _
  rw [sum_ones]
theorem spWts_nums : ∀ xs : List Int, spWts (xs.map (ndNum 4)) = xs.length
  | [] => by rw [List.map_nil, spWts_nil]; rfl
  | x :: xs => by rw [List.map_cons, spWts_cons, spWt_num, spWts_nums xs, List.length_cons]; omega
theorem spWt_nums (xs : List Int) : spWt (spNums xs) = 1 + xs.length := by rw [spNums_eq, spWt_rows, spWts_nums]
theorem dsz_orP (p : torPart.den) : dsz torPart p = List.length (α := Int) p.2.2.1 + 6 := by
  show 1 + (1 + ((dsz (.sl 2 (.int .i64)) p.2.2.1) + (1 + (1 + (1 + (0)))))) = _
  rw [dsz_ns]; omega
theorem dsz_orT (t : torTopic.den) : dsz torTopic t = (t.1.length + 1) + (((t.2.1.map (dsz torPart)).sum + 1) + 0) := rfl
theorem dsz_orM (m : torMsg.den) : dsz torMsg m = 1 + (((m.2.1.map (dsz torTopic)).sum + 1) + (0)) := rfl
theorem wt_orP (p : torPart.den) : spWt (sporF p) ≤ 3 * dsz torPart p := by
  rw [dsz_orP]
  show spWt (ndRow [ndNum 3 p.1, ndNum 2 p.2.1, spNums p.2.2.1, ndNum 4 p.2.2.2.1, ndNum 4 p.2.2.2.2.1, ndNum 3 p.2.2.2.2.2.1]) ≤ _
  rw [spWt_row, spWts_cons, spWts_cons, spWts_cons, spWts_cons, spWts_cons, spWts_cons, spWts_nil, spWt_nums, spWt_num, spWt_num, spWt_num, spWt_num, spWt_num]
  omega
theorem wt_orT (t : torTopic.den) : spWt (sporFT t) ≤ 3 * dsz torTopic t := by
  have h := wts_map (T := torPart) (F := sporF) (c := 3) (l := t.2.1) fun p _ => wt_orP p
  rw [dsz_orT]
  show spWt (ndRow [ndText t.1, ndRows (t.2.1.map sporF)]) ≤ _
  rw [spWt_row, spWts_cons, spWts_cons, spWts_nil, spWt_text, spWt_rows]
  omega
theorem or_bulk {m : torMsg.den} (h : dsz torMsg m ≤ 1048576) : spSmor m = true := by
  have h1 := wts_map (T := torTopic) (F := sporFT) (c := 3) (l := m.2.1) fun t _ => wt_orT t
  have h2 := sum_len (T := torTopic) (fun t => by rw [dsz_orT]; omega) m.2.1
  rw [dsz_orM] at h
  have hp : ∀ t ∈ m.2.1, t.2.1.length ≤ 1048576 ∧ ∀ p ∈ t.2.1, List.length (α := Int) p.2.2.1 ≤ 1048576 := fun t htm => by
    have a1 := sum_mem (T := torTopic) htm
    rw [dsz_orT] at a1
    have a2 := sum_len (T := torPart) (fun p => by rw [dsz_orP]; omega) t.2.1
    refine ⟨by omega, fun p hp => ?_⟩
    have a3 := sum_mem (T := torPart) hp
    rw [dsz_orP] at a3
    omega
  unfold spSmor
  simp only [Bool.and_eq_true, decide_eq_true_eq]
  refine ⟨?_, ?_⟩
  · unfold sporLens
    simp only [Bool.and_eq_true, decide_eq_true_eq]
    refine ⟨by omega, List.all_eq_true.2 fun t htm => ?_⟩
    unfold sporLenT
    simp only [Bool.and_eq_true, decide_eq_true_eq]
    have h3 := hp t htm
    refine ⟨by omega, List.all_eq_true.2 fun p hpm => decide_eq_true ?_⟩
    have := h3.2 p hpm
    omega
  · unfold sporFull
    show 8 * spWt (ndRow [ndNum 3 m.1, ndRows (m.2.1.map sporFT)]) ≤ _
    rw [spWt_row, spWts_cons, spWts_cons, spWts_nil, spWt_num, spWt_rows]
    omega
end
end Go.Proofs.YtjpeefegeobgfaaGreat.Sym
namespace Go.Proofs.YtjpeefegeobgfaaGreat.Sym
open Go
set_option linter.unusedSimpArgs false
set_option linter.unusedVariables false
noncomputable section
theorem spEW_nil {k : Int} {r : Bool} {v : Int} {n : Nd} (h : (spEW k r v n).2 ≠ 0) : (spEW k r v n).1 = [] := by
  unfold spEW spEnc at h ⊢
  repeat' (split; · rfl)
  repeat' split
  all_goals first | rfl | (simp_all; done)
theorem cut_last {b : List Int} (h : b.length ≤ 130048) : List.drop (Int.toNat 0) (List.take (IntKind.i64.wrap ((b.length : Int) - 1)).toNat b) = b.take (b.length - 1) := by
  rw [wrap_i64 (n := (b.length : Int) - 1) (by omega) (by omega)]
  have : ((b.length : Int) - 1).toNat = b.length - 1 := by omega
  rw [this]; rfl
end
end Go.Proofs.YtjpeefegeobgfaaGreat.Sym
namespace Go.Proofs.YtjpeefegeobgfaaGreat.Sym
open Go
set_option linter.unusedSimpArgs false
set_option linter.unusedVariables false
noncomputable section
abbrev iooBack : Io := ⟨[dI, .dat toqMsg true false, .dat torMsg true false], [], [], [dB], none⟩
def FoBack (d : iooBack.In) : Tr iooBack.Res := .ite (spSmoq d.1.2.1 && spSmor d.1.2.2.1) (.ret (.ret ((true, ()), ()))) .no
abbrev csoBack : List (Nat × Hc) := [(13, ioHd iooalive Foalive), (14, ioHd iozoqTwin FzoqTwin), (15, ioHd iozoqEnc FzoqEnc), (16, ioHd ioeoqMsg FeoqMsg), (27, ioHd iodoqMsg FdoqMsg), (29, ioHd ioPiece FPiece), (17, ioHd iozoqAlike FzoqAlike), (19, ioHd iozorTwin FzorTwin), (20, ioHd iozorEnc FzorEnc), (21, ioHd ioeorMsg FeorMsg), (25, ioHd iodorMsg FdorMsg), (22, ioHd iozorAlike FzorAlike)]
def hdoBack : Hd := hdT csoBack
def lpoBack : Lp := lpT []
def bodyoBack (a0 : Int) (a1 : Int) (a2 : Int) (a3 : List toqTopic.den) (a4 : Int) (a5 : List torTopic.den) : Option iooBack.Res := bif spoqLens a3 && decide (spWt (spoqFull (a1, a2, a3, ())) ≤ 4294967296) then bif (spoqW a0 (a1, a2, a3, ())).snd != 0 then bif spoqLens a3 && decide (8 * spWt (spoqFull (a1, a2, a3, ())) ≤ 4294967296) then bif (spoqW a0 (a1, a2, a3, ())).snd == 0 then some (Out.ret ((false, ()), ())) else bif (↑(spoqW a0 (a1, a2, a3, ())).fst.length : Int) != 0 then some (Out.ret ((false, ()), ())) else bif sporLens a5 && decide (spWt (sporFull (a4, a5, ())) ≤ 4294967296) then bif (sporW a0 (a4, a5, ())).snd != 0 then bif sporLens a5 && decide (8 * spWt (sporFull (a4, a5, ())) ≤ 4294967296) then bif (sporW a0 (a4, a5, ())).snd != 0 then some (Out.ret (((↑(sporW a0 (a4, a5, ())).fst.length : Int) == 0, ()), ())) else some (Out.ret ((false, ()), ())) else none else bif decide ((sporW a0 (a4, a5, ())).fst.length ≤ 4294967296) then bif (sporD a0 (sporW a0 (a4, a5, ())).fst).snd == 0 then bif (sporD a0 (List.drop (Int.toNat 0) (List.take (IntKind.i64.wrap ((↑(sporW a0 (a4, a5, ())).fst.length : Int) - 1)).toNat (sporW a0 (a4, a5, ())).fst))).snd == 1 then bif sporLens (sporD a0 (sporW a0 (a4, a5, ())).fst).fst.snd.fst && sporLens a5 then some (Out.ret ((spEqT (sporD a0 (sporW a0 (a4, a5, ())).fst).fst (a4, a5, ()), ()), ())) else none else some (Out.ret ((false, ()), ())) else some (Out.ret ((false, ()), ())) else none else none else none else bif decide ((spoqW a0 (a1, a2, a3, ())).fst.length ≤ 4294967296) then bif (spoqD a0 (spoqW a0 (a1, a2, a3, ())).fst).snd != 0 then some (Out.ret ((false, ()), ())) else bif (spoqD a0 (List.drop (Int.toNat 0) (List.take (IntKind.i64.wrap ((↑(spoqW a0 (a1, a2, a3, ())).fst.length : Int) - 1)).toNat (spoqW a0 (a1, a2, a3, ())).fst))).snd != 1 then some (Out.ret ((false, ()), ())) else bif spoqLens (spoqD a0 (spoqW a0 (a1, a2, a3, ())).fst).fst.snd.snd.fst && spoqLens a3 then bif !spEqT (spoqD a0 (spoqW a0 (a1, a2, a3, ())).fst).fst (a1, a2, a3, ()) then some (Out.ret ((false, ()), ())) else bif sporLens a5 && decide (spWt (sporFull (a4, a5, ())) ≤ 4294967296) then bif (sporW a0 (a4, a5, ())).snd != 0 then bif sporLens a5 && decide (8 * spWt (sporFull (a4, a5, ())) ≤ 4294967296) then bif (sporW a0 (a4, a5, ())).snd != 0 then some (Out.ret (((↑(sporW a0 (a4, a5, ())).fst.length : Int) == 0, ()), ())) else some (Out.ret ((false, ()), ())) else none else bif decide ((sporW a0 (a4, a5, ())).fst.length ≤ 4294967296) then bif (sporD a0 (sporW a0 (a4, a5, ())).fst).snd == 0 then bif (sporD a0 (List.drop (Int.toNat 0) (List.take (IntKind.i64.wrap ((↑(sporW a0 (a4, a5, ())).fst.length : Int) - 1)).toNat (sporW a0 (a4, a5, ())).fst))).snd == 1 then bif sporLens (sporD a0 (sporW a0 (a4, a5, ())).fst).fst.snd.fst && sporLens a5 then some (Out.ret ((spEqT (sporD a0 (sporW a0 (a4, a5, ())).fst).fst (a4, a5, ()), ()), ())) else none else some (Out.ret ((false, ()), ())) else some (Out.ret ((false, ()), ())) else none else none else none else none else none
theorem runoBack (a0 : Int) (a1 : Int) (a2 : Int) (a3 : List toqTopic.den) (a4 : Int) (a5 : List torTopic.den) : Io.run tt hdoBack dr lpoBack iooBack Go.Proofs.Tryz.f6 ((a0, (a1, a2, a3, ()), (a4, a5, ()), ()), ()) = bodyoBack a0 a1 a2 a3 a4 a5 := by kernel_rfl
theorem okoBack : HcOk prog 6 (ioHd iooBack FoBack) := by
  refine fn_sound (n := 400) hm (cs := csoBack) (.cons okoalive (.cons okzoqTwin (.cons okzoqEnc (.cons okeoqMsg (.cons okdoqMsg (.cons okPiece (.cons okzoqAlike (.cons okzorTwin (.cons okzorEnc (.cons okeorMsg (.cons okdorMsg (.cons okzorAlike .nil)))))))))))) (lp := lpoBack) (fn := Go.Proofs.Tryz.f6) (by kernel_rfl) (by kernel_rfl) (by kernel_rfl) iooBack (.done (by kernel_rfl)) FoBack ?_
  rintro ⟨⟨(v : Int), ⟨re, lv, ts, ⟨⟩⟩, ⟨thR, tsR, ⟨⟩⟩, ⟨⟩⟩, ⟨⟩⟩ out hw ho
  obtain ⟨hg, ho⟩ := Tr.guard ho
  unfold spSmoq spSmor at hg
  simp only [Bool.and_eq_true, decide_eq_true_eq] at hg
  obtain ⟨⟨h2, h3⟩, h4, h5⟩ := hg
  cases ho
  have hmq := hw.1.2.1
  have hmp := hw.1.2.2.1
  refine (runoBack v re lv ts thR tsR).trans ?_
  unfold bodyoBack
  have h2 : spoqLens ts = true := h2
  have h3 : 8 * spWt (spoqFull (re, (lv, (ts, ())))) ≤ 4294967296 := h3
  have h4 : sporLens tsR = true := h4
  have h5 : 8 * spWt (sporFull (thR, (tsR, ()))) ≤ 4294967296 := h5
  have hmq : toqMsg.wf (re, (lv, (ts, ()))) := hmq
  have hmp : torMsg.wf (thR, (tsR, ())) := hmp
  have e1 : decide (spWt (spoqFull (re, (lv, (ts, ())))) ≤ 4294967296) = true := decide_eq_true (by omega)
  have lq : (spoqW v (re, (lv, (ts, ())))).1.length ≤ 130048 := by unfold spoqW; exact spEW_len _ _ _ _
  have nq : (spoqW v (re, (lv, (ts, ())))).2 ≠ 0 → (spoqW v (re, (lv, (ts, ())))).1 = [] := by unfold spoqW; exact spEW_nil
  have bq := oq_back (v := v) hmq
  have e2 : decide (spWt (sporFull (thR, (tsR, ()))) ≤ 4294967296) = true := decide_eq_true (by omega)
  have lp : (sporW v (thR, (tsR, ()))).1.length ≤ 130048 := by unfold sporW; exact spEW_len _ _ _ _
  have np : (sporW v (thR, (tsR, ()))).2 ≠ 0 → (sporW v (thR, (tsR, ()))).1 = [] := by unfold sporW; exact spEW_nil
  have bp := or_back (v := v) hmp
  generalize hQ : (re, (lv, (ts, ()))) = Q at *
  have hts : ts = Q.2.2.1 := by rw [← hQ]
  generalize hP : (thR, (tsR, ())) = R at *
  have hus : tsR = R.2.1 := by rw [← hP]
  have tq : spEqT Q Q = true := spEqT_iff.2 rfl
  have tp : spEqT R R = true := spEqT_iff.2 rfl
  rw [cut_last lq, cut_last lp]
  have dq : decide ((spoqW v Q).1.length ≤ 4294967296) = true := decide_eq_true (by omega)
  have dp : decide ((sporW v R).1.length ≤ 4294967296) = true := decide_eq_true (by omega)
  have d3 := decide_eq_true h3
  have d5 := decide_eq_true h5
  by_cases hq : (spoqW v Q).2 = 0
  · obtain ⟨bq1, bq2⟩ := bq hq
    by_cases hp : (sporW v R).2 = 0
    · obtain ⟨bp1, bp2⟩ := bp hp
      rw [hts] at h2 ⊢
      rw [hus] at h4 ⊢
      simp only [h2, h4, e1, e2, d3, d5, dq, dp, hq, hp, bq1, bq2, bp1, bp2, tq, tp, cond_true, cond_false, bne_self_eq_false, Bool.not_true, Bool.and_self, beq_self_eq_true]
    · have hp' : ((sporW v R).2 != 0) = true := by simpa using hp
      rw [hts] at h2 ⊢
      simp only [h2, h4, e1, e2, d3, d5, dq, dp, hq, hp', bq1, bq2, tq, tp, np hp, cond_true, cond_false, bne_self_eq_false, Bool.not_true, Bool.and_self, beq_self_eq_true, List.length_nil]
      rfl
  · have hq' : ((spoqW v Q).2 != 0) = true := by simpa using hq
    have hq2 : ((spoqW v Q).2 == 0) = false := by simpa using hq
    by_cases hp : (sporW v R).2 = 0
    · obtain ⟨bp1, bp2⟩ := bp hp
      rw [hus] at h4 ⊢
      simp only [h2, h4, e1, e2, d3, d5, dq, dp, hq', hq2, hp, bp1, bp2, tq, tp, nq hq, cond_true, cond_false, bne_self_eq_false, Bool.not_true, Bool.and_self, beq_self_eq_true, List.length_nil]
      rfl
    · have hp' : ((sporW v R).2 != 0) = true := by simpa using hp
      simp only [h2, h4, e1, e2, d3, d5, dq, dp, hq', hq2, hp', tq, tp, nq hq, np hp, cond_true, cond_false, bne_self_eq_false, Bool.not_true, Bool.and_self, beq_self_eq_true, List.length_nil]
      rfl
end
end Go.Proofs.YtjpeefegeobgfaaGreat.Sym
