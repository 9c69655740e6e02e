/- leatref13: Req as a tree, as new memory, compared, written. -/
import Derived.Test.YtjpeefegeobgfaaGreatQ6

namespace Go.Proofs.YtjpeefegeobgfaaGreat.Sym
open Go
set_option linter.unusedSimpArgs false
set_option linter.unusedVariables false
noncomputable section
def spoqF (p : toqPart.den) : Nd := ndRow [ndNum 3 p.1, ndNum 3 p.2.1, ndNum 4 p.2.2.1, ndNum 3 p.2.2.2.1]
theorem spoqF_eq {p : toqPart.den} (h : toqPart.wf p) : ndRow [ndNum 3 (IntKind.i64.wrap p.1), ndNum 3 (IntKind.i64.wrap p.2.1), ndNum 4 p.2.2.1, ndNum 3 (IntKind.i64.wrap p.2.2.2.1)] = spoqF p := by
  rw [i64_i32 (n := p.1) h.1, i64_i32 (n := p.2.1) h.2.1, i64_i32 (n := p.2.2.2.1) h.2.2.2.1]; rfl
def spoqFT (t : toqTopic.den) : Nd := ndRow [ndText t.1, ndRows (t.2.1.map spoqF)]
@[irreducible] def spoqFull (m : toqMsg.den) : Nd := ndRow [ndNum 3 m.1, ndNum 1 m.2.1, ndRows (m.2.2.1.map spoqFT)]
def spoqO (x : Nd) : toqPart.den := (IntKind.i32.wrap (spAt x 0).lab.2.1, (IntKind.i32.wrap (spAt x 1).lab.2.1, ((spAt x 2).lab.2.1, (IntKind.i32.wrap (spAt x 3).lab.2.1, ()))))
def spoqOT (x : Nd) : toqTopic.den := ((spAt x 0).lab.2.2.2.1, ((spAt x 1).kids.map spoqO, ()))
@[irreducible] def spoqOM (n : Nd) : toqMsg.den := (IntKind.i32.wrap (spAt n 0).lab.2.1, (IntKind.i8.wrap (spAt n 1).lab.2.1, ((spAt n 2).kids.map spoqOT, ())))
theorem spoqO_full {p : toqPart.den} (h : toqPart.wf p) : spoqO (spoqF p) = p := by
  obtain ⟨(ix : Int), (ep : Int), (ti : Int), (mo : Int), ⟨⟩⟩ := p
  show (IntKind.i32.wrap ix, (IntKind.i32.wrap ep, (ti, (IntKind.i32.wrap mo, ())))) = _
  rw [i32_id (n := ix) h.1, i32_id (n := ep) h.2.1, i32_id (n := mo) h.2.2.2.1]
  try rfl
theorem spoqOT_full {t : toqTopic.den} (h : toqTopic.wf t) : spoqOT (spoqFT t) = t := by
  obtain ⟨n, l, ⟨⟩⟩ := t
  show (n, ((l.map spoqF).map spoqO, ())) = _
  rw [List.map_map, map_id_of (f := spoqO ∘ spoqF) (l := l) fun p hp => spoqO_full (h.2.1.2 p hp)]
theorem spoqOM_full {m : toqMsg.den} (h : toqMsg.wf m) : spoqOM (spoqFull m) = m := by
  obtain ⟨(re : Int), (lv : Int), (ts : List toqTopic.den), ⟨⟩⟩ := m
  unfold spoqOM spoqFull
  show (IntKind.i32.wrap re, (IntKind.i8.wrap lv, ((ts.map spoqFT).map spoqOT, ()))) = _
  rw [i32_id (n := re) h.1, i8_id (n := lv) h.2.1, List.map_map, map_id_of (f := spoqOT ∘ spoqFT) (l := ts) fun t ht => spoqOT_full (h.2.2.1.2 t ht)]
abbrev iozoqFull : Io := ⟨[.dat toqMsg true false], [], [], [dNode], none⟩
def spoqLens (l : List toqTopic.den) : Bool := decide (l.length ≤ 4294967296) && l.all fun t => decide (t.2.1.length ≤ 4294967296)
def FzoqFull (d : iozoqFull.In) : Tr iozoqFull.Res := .ite (spoqLens d.1.1.2.2.1) (.ret (.ret ((spoqFull d.1.1, ()), ()))) .no
abbrev cszoqFull : List (Nat × Hc) := [(130, ioHd iotNum FtNum), (131, ioHd iotRow FtRow), (132, ioHd iotText FtText), (133, ioHd iotRows FtRows)]
def hdzoqFull : Hd := hdT cszoqFull
abbrev lozoqFull_8 : Lo := ⟨⟨[.any, .one (.ptr 1 0), .one (.ptr 2 0), .one (.onl 98 tNode 7), .one (.hol (.int IntKind.i64)), .one (.onl 98 tNode 11), .one (.hol (.int IntKind.i64)), .any, .any, .any, .any, .any, .any, .any, .any, .any, .any, .any, .any, .any, .any, .any, .any, .any, .any, .any, .any, .any, .any, .any, .any, .any, .any, .any, .any, .any, .any, .any, .any, .any, .any, .any, .any, .any, .any, .any, .any, .any, .any, .any, .any, .any, .any, .any, .any, .any, .any, .any, .any, .any, .any, .any, .any, .any, .any, .any, .any, .any, .any, .any, .any, .any, .any, .any, .any, .any, .any, .any, .any, .any, .any, .any, .any, .any, .any], [none, some [.hol (.int IntKind.i32), .hol (.int IntKind.i8), .hol (.sl 111 toqTopic)], some [.hol (.int IntKind.i64), .hol (.int IntKind.i64), .hol .bool, .onl 5 (Ty.int IntKind.u8) 1032, .onl 98 tNode 1034]]⟩, [(.exit 2, ⟨[.any, .one (.ptr 1 0), .one (.ptr 2 0), .one (.onl 98 tNode 7), .one (.hol (.int IntKind.i64)), .one (.onl 98 tNode 11), .any, .any, .any, .any, .any, .any, .any, .any, .any, .any, .any, .any, .any, .any, .any, .any, .any, .any, .any, .any, .any, .any, .any, .any, .any, .any, .any, .any, .any, .any, .any, .any, .any, .any, .any, .any, .any, .any, .any, .any, .any, .any, .any, .any, .any, .any, .any, .any, .any, .any, .any, .any, .any, .any, .any, .any, .any, .any, .any, .any, .any, .any, .any, .any, .any, .any, .any, .any, .any, .any, .any, .any, .any, .any, .any, .any, .any, .any, .any], [none, some [.hol (.int IntKind.i32), .hol (.int IntKind.i8), .hol (.sl 111 toqTopic)], some [.hol (.int IntKind.i64), .hol (.int IntKind.i64), .hol .bool, .onl 5 (Ty.int IntKind.u8) 1032, .onl 98 tNode 1034]]⟩)]⟩
-- FzoqFull_8 : lozoqFull_8.st.den → Tr (DenX lozoqFull_8.xs) | ((h13, (h14, (h15, (h16, ())))), ((h17, (h18, (h19, ()))), ((h20, (h21, (h22, (h23, (h24, ()))))), ())))
abbrev lozoqFull_4 : Lo := ⟨⟨[.any, .one (.ptr 1 0), .one (.ptr 2 0), .one (.onl 98 tNode 7), .one (.hol (.int IntKind.i64)), .any, .any, .any, .any, .any, .any, .any, .any, .any, .any, .any, .any, .any, .any, .any, .any, .any, .any, .any, .any, .any, .any, .any, .any, .any, .any, .any, .any, .any, .any, .any, .any, .any, .any, .any, .any, .any, .any, .any, .any, .any, .any, .any, .any, .any, .any, .any, .any, .any, .any, .any, .any, .any, .any, .any, .any, .any, .any, .any, .any, .any, .any, .any, .any, .any, .any, .any, .any, .any, .any, .any, .any, .any, .any, .any, .any, .any, .any, .any, .any], [none, some [.hol (.int IntKind.i32), .hol (.int IntKind.i8), .hol (.sl 111 toqTopic)], some [.hol (.int IntKind.i64), .hol (.int IntKind.i64), .hol .bool, .onl 5 (Ty.int IntKind.u8) 1032, .onl 98 tNode 1034]]⟩, [(.exit 0, ⟨[.any, .one (.ptr 1 0), .one (.ptr 2 0), .one (.onl 98 tNode 7), .any, .any, .any, .any, .any, .any, .any, .any, .any, .any, .any, .any, .any, .any, .any, .any, .any, .any, .any, .any, .any, .any, .any, .any, .any, .any, .any, .any, .any, .any, .any, .any, .any, .any, .any, .any, .any, .any, .any, .any, .any, .any, .any, .any, .any, .any, .any, .any, .any, .any, .any, .any, .any, .any, .any, .any, .any, .any, .any, .any, .any, .any, .any, .any, .any, .any, .any, .any, .any, .any, .any, .any, .any, .any, .any, .any, .any, .any, .any, .any, .any], [none, some [.hol (.int IntKind.i32), .hol (.int IntKind.i8), .hol (.sl 111 toqTopic)], some [.hol (.int IntKind.i64), .hol (.int IntKind.i64), .hol .bool, .onl 5 (Ty.int IntKind.u8) 1032, .onl 98 tNode 1034]]⟩)]⟩
-- FzoqFull_4 : lozoqFull_4.st.den → Tr (DenX lozoqFull_4.xs) | ((h3, (h4, ())), ((h5, (h6, (h7, ()))), ((h8, (h9, (h10, (h11, (h12, ()))))), ())))
def FzoqFull_8 (d : lozoqFull_8.st.den) : Tr (DenX lozoqFull_8.xs) :=
  .ite ((decide ((0 : Int) ≤ d.1.2.1) && decide (d.1.2.1 < (d.2.1.2.2.1.length : Int))) && ((decide (d.1.2.2.1.length = 0) && decide (d.1.2.2.2.1 = 0)) && decide ((d.2.1.2.2.1.getD d.1.2.1.toNat toqTopic.zero).2.1.length ≤ 4294967296)))
    (.ret (.ret ((), ((d.1.1, (d.1.2.1, ((d.2.1.2.2.1.getD d.1.2.1.toNat toqTopic.zero).2.1.map spoqF, ()))), (d.2.1, (d.2.2.1, ())))))) .no
def FzoqFull_4 (d : lozoqFull_4.st.den) : Tr (DenX lozoqFull_4.xs) :=
  .ite ((decide (d.1.1.length = 0) && decide (d.1.2.1 = 0)) && spoqLens d.2.1.2.2.1)
    (.ret (.ret ((), ((d.2.1.2.2.1.map spoqFT, ()), (d.2.1, (d.2.2.1, ())))))) .no
def lpzoqFull : Lp := lpT [(4, loHd lozoqFull_4 FzoqFull_4), (8, loHd lozoqFull_8 FzoqFull_8)]
def stepzoqFull_8 {R : Type} (h13 : List tNode.den) (h14 : Int) (h15 : List tNode.den) (h16 : Int) (h17 : Int) (h18 : Int) (h19 : List toqTopic.den) (h20 : Int) (h21 : Int) (h22 : Bool) (h23 : List Int) (h24 : List tNode.den) (next : List tNode.den → Int → List tNode.den → Int → Int → Int → List toqTopic.den → Int → Int → Bool → List Int → List tNode.den → Option R) (out : DenX lozoqFull_8.xs → Option R) : Option R := bif decide (0 ≤ h14) && decide (h14 < (↑h19.length : Int)) then bif decide (h16 < (↑(List.length (h19.getD h14.toNat ([], [], ())).snd.fst) : Int)) then bif decide (0 ≤ h14) && decide (h14 < (↑h19.length : Int)) then bif decide (0 ≤ h16) && decide (h16 < (↑(List.length (h19.getD h14.toNat ([], [], ())).snd.fst) : Int)) then bif decide (h15.length + 1 ≤ 4294967296) then next (h13) (h14) (h15 ++ [Tre.mk (10, 0, false, [], ()) [Tre.mk (3, IntKind.i64.wrap (List.getD (h19.getD h14.toNat ([], [], ())).snd.fst h16.toNat (0, 0, 0, 0, ())).fst, false, [], ()) [], Tre.mk (3, IntKind.i64.wrap (List.getD (h19.getD h14.toNat ([], [], ())).snd.fst h16.toNat (0, 0, 0, 0, ())).snd.fst, false, [], ()) [], Tre.mk (4, (List.getD (h19.getD h14.toNat ([], [], ())).snd.fst h16.toNat (0, 0, 0, 0, ())).snd.snd.fst, false, [], ()) [], Tre.mk (3, IntKind.i64.wrap (List.getD (h19.getD h14.toNat ([], [], ())).snd.fst h16.toNat (0, 0, 0, 0, ())).snd.snd.snd.fst, false, [], ()) []]]) (IntKind.i64.wrap (h16 + 1)) (h17) (h18) (h19) (h20) (h21) (h22) (h23) (h24) else none else none else none else out (.ret ((), ((h13, (h14, (h15, ()))), ((h17, (h18, (h19, ()))), ((h20, (h21, (h22, (h23, (h24, ()))))), ()))))) else none
def itzoqFull_8 (n : Nat) (h13 : List tNode.den) (h14 : Int) (h15 : List tNode.den) (h16 : Int) (h17 : Int) (h18 : Int) (h19 : List toqTopic.den) (h20 : Int) (h21 : Int) (h22 : Bool) (h23 : List Int) (h24 : List tNode.den) : Option (DenX lozoqFull_8.xs) := lpN tt hdzoqFull dr lpzoqFull 0 Go.Proofs.Tryz.f52 (subL Go.Proofs.Tryz.f52 (topL Go.Proofs.Tryz.f52 0) 0) n (lozoqFull_8.st.mk' ((h13, (h14, (h15, (h16, ())))), ((h17, (h18, (h19, ()))), ((h20, (h21, (h22, (h23, (h24, ()))))), ())))) (decX lozoqFull_8.xs)
theorem slzoqFull_8 (n : Nat) (h13 : List tNode.den) (h14 : Int) (h15 : List tNode.den) (h16 : Int) (h17 : Int) (h18 : Int) (h19 : List toqTopic.den) (h20 : Int) (h21 : Int) (h22 : Bool) (h23 : List Int) (h24 : List tNode.den) : itzoqFull_8 (n + 1) h13 h14 h15 h16 h17 h18 h19 h20 h21 h22 h23 h24 = stepzoqFull_8 h13 h14 h15 h16 h17 h18 h19 h20 h21 h22 h23 h24 (itzoqFull_8 n) some := by kernel_rfl
def stepzoqFull_4 {R : Type} (h3 : List tNode.den) (h4 : Int) (h5 : Int) (h6 : Int) (h7 : List toqTopic.den) (h8 : Int) (h9 : Int) (h10 : Bool) (h11 : List Int) (h12 : List tNode.den) (next : List tNode.den → Int → Int → Int → List toqTopic.den → Int → Int → Bool → List Int → List tNode.den → Option R) (out : DenX lozoqFull_4.xs → Option R) : Option R := bif decide (h4 < (↑h7.length : Int)) then (FzoqFull_8 ((h3, (h4, ([], (0, ())))), ((h5, (h6, (h7, ()))), ((h8, (h9, (h10, (h11, (h12, ()))))), ())))).run fun y => match y with | .ret ((), ((x48, x49, x50, ()), (x51, x52, x53, ()), (x54, x55, x56, x57, x58, ()), ())) => (bif decide (0 ≤ x49) && decide (x49 < (↑x53.length : Int)) then bif decide (x48.length + 1 ≤ 4294967296) then next (x48 ++ [Tre.mk (10, 0, false, [], ()) [Tre.mk (5, 0, false, (x53.getD x49.toNat ([], [], ())).fst, ()) [], Tre.mk (9, 0, false, [], ()) x50]]) (IntKind.i64.wrap (x49 + 1)) (x51) (x52) (x53) (x54) (x55) (x56) (x57) (x58) else none else none) else out (.ret ((), ((h3, ()), ((h5, (h6, (h7, ()))), ((h8, (h9, (h10, (h11, (h12, ()))))), ())))))
def itzoqFull_4 (n : Nat) (h3 : List tNode.den) (h4 : Int) (h5 : Int) (h6 : Int) (h7 : List toqTopic.den) (h8 : Int) (h9 : Int) (h10 : Bool) (h11 : List Int) (h12 : List tNode.den) : Option (DenX lozoqFull_4.xs) := lpN tt hdzoqFull dr lpzoqFull 0 Go.Proofs.Tryz.f52 (topL Go.Proofs.Tryz.f52 0) n (lozoqFull_4.st.mk' ((h3, (h4, ())), ((h5, (h6, (h7, ()))), ((h8, (h9, (h10, (h11, (h12, ()))))), ())))) (decX lozoqFull_4.xs)
theorem slzoqFull_4 (n : Nat) (h3 : List tNode.den) (h4 : Int) (h5 : Int) (h6 : Int) (h7 : List toqTopic.den) (h8 : Int) (h9 : Int) (h10 : Bool) (h11 : List Int) (h12 : List tNode.den) : itzoqFull_4 (n + 1) h3 h4 h5 h6 h7 h8 h9 h10 h11 h12 = stepzoqFull_4 h3 h4 h5 h6 h7 h8 h9 h10 h11 h12 (itzoqFull_4 n) some := by kernel_rfl
theorem loopzoqFull_8 {ts : List toqTopic.den} (hw : ∀ t ∈ ts, toqTopic.wf t) (hl : ts.length ≤ maxLen) {i : Nat} (hi : i < ts.length) (hp : (ts[i]).2.1.length ≤ 4294967296) (acc : List Nd) (re : Int) (lv : Int) (a' b' : Int) (z' : Bool) (x' : List Int) (l' : List Nd) : ∀ (k j : Nat) (o : List Nd), (ts[i]).2.1.length < j + k → j ≤ (ts[i]).2.1.length → o.length ≤ j →
    itzoqFull_8 k acc i o j re lv ts a' b' z' x' l' = some (.ret ((), ((acc, ((i : Int), (o ++ ((ts[i]).2.1.drop j).map spoqF, ()))), ((re, (lv, (ts, ()))), ((a', (b', (z', (x', (l', ()))))), ()))))) := by
  intro k
  induction k with
  | zero => intro j o h1 h2; omega
  | succ k ih =>
    intro j o h1 h2 h3
    rw [slzoqFull_8]
    unfold stepzoqFull_8
    refine (bif_true (by simp; omega) _ _).trans ?_
    have hti := hw _ (List.getElem_mem hi)
    simp only [Int.toNat_natCast, getD_lt hi]
    generalize ts[i] = t at hp h1 h2 ih hti ⊢
    by_cases hj : j < t.2.1.length
    · refine (bif_true (decide_eq_true (show (j : Int) < (t.2.1.length : Int) by omega)) _ _).trans ?_
      refine (bif_true (by simp; omega) _ _).trans ?_
      refine (bif_true (by simp; omega) _ _).trans ?_
      refine (bif_true (decide_eq_true (show o.length + 1 ≤ 4294967296 by omega)) _ _).trans ?_
      have hpw := hti.2.1.2 _ (List.getElem_mem hj)
      have ih' := ih (j + 1) (o ++ [spoqF t.2.1[j]]) (by omega) (by omega) (by simp; omega)
      have hd : t.2.1.drop j = t.2.1[j] :: t.2.1.drop (j + 1) := List.drop_eq_getElem_cons hj
      rw [hd, wrap_i64 (n := (j : Int) + 1) (by omega) (by omega)]
      have hgp : List.getD t.2.1 ((j : Int)).toNat toqPart.zero = t.2.1[j] := by simp only [Int.toNat_natCast]; exact getD_lt hj

      refine Eq.trans ?_ (ih'.trans ?_)
      · refine congrArg (fun x => itzoqFull_8 k acc i (o ++ [x]) _ re lv ts a' b' z' x' l') ?_
        show ndRow [ndNum 3 (IntKind.i64.wrap (List.getD t.2.1 ((j : Int)).toNat toqPart.zero).1), ndNum 3 (IntKind.i64.wrap (List.getD t.2.1 ((j : Int)).toNat toqPart.zero).2.1), ndNum 4 (List.getD t.2.1 ((j : Int)).toNat toqPart.zero).2.2.1, ndNum 3 (IntKind.i64.wrap (List.getD t.2.1 ((j : Int)).toNat toqPart.zero).2.2.2.1)] = _
        rw [hgp]
        exact spoqF_eq hpw
      · simp only [List.map_cons, List.append_assoc, List.singleton_append]
    · refine (bif_false (decide_eq_false (show ¬ (j : Int) < (t.2.1.length : Int) by omega)) _ _).trans ?_
      rw [List.drop_of_length_le (by omega)]
      simp
theorem loopzoqFull_4 {ts : List toqTopic.den} (hw : ∀ t ∈ ts, toqTopic.wf t) (hl : ts.length ≤ maxLen) (hs : spoqLens ts = true) (re : Int) (lv : Int) (a' b' : Int) (z' : Bool) (x' : List Int) (l' : List Nd) : ∀ (k j : Nat) (o : List Nd), ts.length < j + k → j ≤ ts.length → o.length ≤ j →
    itzoqFull_4 k o j re lv ts a' b' z' x' l' = some (.ret ((), ((o ++ (ts.drop j).map spoqFT, ()), ((re, (lv, (ts, ()))), ((a', (b', (z', (x', (l', ()))))), ()))))) := by
  intro k
  have hs1 := (Bool.and_eq_true _ _ ▸ hs).1
  have hs2 := (Bool.and_eq_true _ _ ▸ hs).2
  have hs1 : ts.length ≤ 4294967296 := of_decide_eq_true hs1
  induction k with
  | zero => intro j o h1 h2; omega
  | succ k ih =>
    intro j o h1 h2 h3
    rw [slzoqFull_4]
    unfold stepzoqFull_4
    by_cases hj : j < ts.length
    · refine (bif_true (decide_eq_true (show (j : Int) < (ts.length : Int) by omega)) _ _).trans ?_
      have hgp : ts.getD ((j : Int)).toNat toqTopic.zero = ts[j] := by simp only [Int.toNat_natCast]; exact getD_lt hj
      have hpl : (ts[j]).2.1.length ≤ 4294967296 := of_decide_eq_true (List.all_eq_true.1 hs2 _ (List.getElem_mem hj))
      have c8 : ((decide ((0 : Int) ≤ (j : Int)) && decide ((j : Int) < (ts.length : Int))) && ((decide (([] : List Nd).length = 0) && decide ((0 : Int) = 0)) && decide ((ts.getD ((j : Int)).toNat toqTopic.zero).2.1.length ≤ 4294967296))) = true := by
        rw [hgp]; simp; omega
      refine (bif_true c8 _ _).trans ?_
      refine (bif_true (by simp; omega) _ _).trans ?_
      refine (bif_true (decide_eq_true (show o.length + 1 ≤ 4294967296 by omega)) _ _).trans ?_
      rw [wrap_i64 (n := (j : Int) + 1) (by omega) (by omega)]
      have ih' := ih (j + 1) (o ++ [spoqFT ts[j]]) (by omega) (by omega) (by simp; omega)
      have hd : ts.drop j = ts[j] :: ts.drop (j + 1) := List.drop_eq_getElem_cons hj
      rw [hd]
      refine Eq.trans ?_ (ih'.trans ?_)
      · refine congrArg (fun x => itzoqFull_4 k (o ++ [x]) _ re lv ts a' b' z' x' l') ?_
        show (ndRow [ndText (ts.getD ((j : Int)).toNat toqTopic.zero).1, ndRows ((ts.getD ((j : Int)).toNat toqTopic.zero).2.1.map spoqF)]) = _
        rw [hgp]; rfl
      · simp only [List.map_cons, List.append_assoc, List.singleton_append]
    · refine (bif_false (decide_eq_false (show ¬ (j : Int) < (ts.length : Int) by omega)) _ _).trans ?_
      rw [List.drop_of_length_le (by omega)]
      simp
def bodyzoqFull (a0 : Int) (a1 : Int) (a2 : List toqTopic.den) : Option iozoqFull.Res := (FzoqFull_4 (([], (0, ())), ((a0, (a1, (a2, ()))), ((0, (0, (false, ([], ([], ()))))), ())))).run fun y => match y with | .ret ((), ((x78, ()), (x79, x80, x81, ()), (x82, x83, x84, x85, x86, ()), ())) => (some (Out.ret ((Tre.mk (10, 0, false, [], ()) [Tre.mk (3, IntKind.i64.wrap x79, false, [], ()) [], Tre.mk (1, IntKind.i64.wrap x80, false, [], ()) [], Tre.mk (9, 0, false, [], ()) x78], ()), ())))
theorem runzoqFull (a0 : Int) (a1 : Int) (a2 : List toqTopic.den) : Io.run tt hdzoqFull dr lpzoqFull iozoqFull Go.Proofs.Tryz.f52 (((a0, a1, a2, ()), ()), ()) = bodyzoqFull a0 a1 a2 := by kernel_rfl
theorem okzoqFull : HcOk prog 52 (ioHd iozoqFull FzoqFull) := by
  refine fn_sound (n := 400) hm (cs := cszoqFull) (.cons oktNum (.cons oktRow (.cons oktText (.cons oktRows .nil)))) (lp := lpzoqFull) (fn := Go.Proofs.Tryz.f52) (by kernel_rfl) (by kernel_rfl) (by kernel_rfl) iozoqFull (.step (h0 := loHd lozoqFull_4 FzoqFull_4) (by kernel_rfl) (loop_sound (n := 400) hm (cs := cszoqFull) (.cons oktNum (.cons oktRow (.cons oktText (.cons oktRows .nil)))) (lp := lpzoqFull) (fn := Go.Proofs.Tryz.f52) (.step (h0 := loHd lozoqFull_8 FzoqFull_8) (by kernel_rfl) (loop_sound (n := 400) hm (cs := cszoqFull) (.cons oktNum (.cons oktRow (.cons oktText (.cons oktRows .nil)))) (lp := lpzoqFull) (fn := Go.Proofs.Tryz.f52) (.done (by kernel_rfl)) lozoqFull_8 FzoqFull_8 ?_) (.done (by kernel_rfl))) lozoqFull_4 FzoqFull_4 ?_) (.done (by kernel_rfl))) FzoqFull ?_
  · rintro ⟨⟨(acc : List Nd), (i : Int), (o : List Nd), (j : Int), ⟨⟩⟩, ⟨⟨(re : Int), (lv : Int), (ts : List toqTopic.den), ⟨⟩⟩, ⟨(a' : Int), (b' : Int), (z' : Bool), (x' : List Int), (l' : List Nd), ⟨⟩⟩, ⟨⟩⟩⟩ y hw hy
    obtain ⟨hg, hy⟩ := Tr.guard hy
    simp only [Bool.and_eq_true, decide_eq_true_eq] at hg
    obtain ⟨⟨h1, h2⟩, ⟨h3, h4⟩, h5⟩ := hg
    have h1 : 0 ≤ i := h1
    have h2 : i < (ts.length : Int) := h2
    have h3 : o = [] := List.eq_nil_of_length_eq_zero h3
    have h4 : j = 0 := h4
    obtain ⟨i, rfl⟩ := toNat_of h1
    subst h3
    subst h4
    have hi : i < ts.length := by omega
    have hgp : ts.getD ((i : Int)).toNat toqTopic.zero = ts[i] := by simp only [Int.toNat_natCast]; exact getD_lt hi
    have h5 : (ts.getD ((i : Int)).toNat toqTopic.zero).2.1.length ≤ 4294967296 := h5
    rw [hgp] at h5
    have hwt : ts.length ≤ maxLen ∧ ∀ t ∈ ts, toqTopic.wf t := by have := hw.2.1.2.2.1; exact this
    refine ⟨(ts[i]).2.1.length + 1, (loopzoqFull_8 hwt.2 hwt.1 hi h5 acc re lv a' b' z' x' l' ((ts[i]).2.1.length + 1) 0 [] (by omega) (by omega) (by simp)).trans ?_⟩
    rw [← hy, ← hgp, List.drop_zero]
    rfl
  · rintro ⟨⟨(o : List Nd), (j : Int), ⟨⟩⟩, ⟨⟨(re : Int), (lv : Int), (ts : List toqTopic.den), ⟨⟩⟩, ⟨(a' : Int), (b' : Int), (z' : Bool), (x' : List Int), (l' : List Nd), ⟨⟩⟩, ⟨⟩⟩⟩ y hw hy
    obtain ⟨hg, hy⟩ := Tr.guard hy
    simp only [Bool.and_eq_true, decide_eq_true_eq] at hg
    obtain ⟨⟨h3, h4⟩, h5⟩ := hg
    have h3 : o = [] := List.eq_nil_of_length_eq_zero h3
    have h4 : j = 0 := h4
    have h5 : spoqLens ts = true := h5
    subst h3
    subst h4
    have hwt : ts.length ≤ maxLen ∧ ∀ t ∈ ts, toqTopic.wf t := by have := hw.2.1.2.2.1; exact this
    refine ⟨ts.length + 1, (loopzoqFull_4 hwt.2 hwt.1 h5 re lv a' b' z' x' l' (ts.length + 1) 0 [] (by omega) (by omega) (by simp)).trans ?_⟩
    rw [← hy, List.drop_zero]
    rfl
  · rintro ⟨⟨⟨(re : Int), (lv : Int), (ts : List toqTopic.den), ⟨⟩⟩, ⟨⟩⟩, ⟨⟩⟩ out hw ho
    obtain ⟨hg, ho⟩ := Tr.guard ho
    have hg : spoqLens ts = true := hg
    cases ho
    refine (runzoqFull re lv ts).trans ?_
    unfold bodyzoqFull
    have c1 : ((decide (([] : List Nd).length = 0) && decide ((0 : Int) = 0)) && spoqLens ts) = true := by rw [hg]; rfl
    refine (bif_true c1 _ _).trans ?_
    show _ = some (Out.ret ((spoqFull (re, (lv, (ts, ()))), ()), ()))
    unfold spoqFull
    have hre : IntKind.i64.wrap re = re := i64_i32 hw.1.1.1
    have hlv : IntKind.i64.wrap lv = lv := i64_i8 hw.1.1.2.1
    show some (Out.ret ((ndRow [ndNum 3 (IntKind.i64.wrap re), ndNum 1 (IntKind.i64.wrap lv), ndRows (ts.map spoqFT)], ()), ())) = _
    rw [hre, hlv]
abbrev iozoqOf : Io := ⟨[dNode], [], [], [.dat toqMsg true false], none⟩
def FzoqOf (d : iozoqOf.In) : Tr iozoqOf.Res := .ite (decide (spWt d.1.1 ≤ 4294967296)) (.ret (.ret ((spoqOM d.1.1, ()), ()))) .no
abbrev cszoqOf : List (Nat × Hc) := [(129, ioHd iotAt FtAt)]
def hdzoqOf : Hd := hdT cszoqOf
abbrev lozoqOf_10 : Lo := ⟨⟨[.any, .any, .one (.ptr 2 0), .one (.ptr 3 0), .one (.hol (.sl 98 tNode)), .one (.hol (.int IntKind.i64)), .one (.ptr 6 0), .one (.hol (.sl 98 tNode)), .one (.hol (.int IntKind.i64)), .any, .any, .any, .any, .any, .any, .any, .any, .any, .any, .any, .any, .any, .any, .any, .any, .any, .any, .any, .any, .any, .any, .any, .any, .any, .any, .any, .any, .any, .any, .any, .any, .any, .any, .any, .any, .any, .any, .any, .any, .any, .any, .any, .any, .any, .any, .any, .any, .any, .any, .any, .any, .any, .any, .any, .any, .any, .any, .any, .any, .any, .any, .any, .any, .any, .any, .any, .any, .any, .any, .any, .any, .any, .any, .any, .any, .any, .any, .any, .any, .any, .any], [none, none, some [.hol (.int IntKind.i32), .hol (.int IntKind.i8), .onl 111 toqTopic 1030], some [.hol (.int IntKind.i32), .hol (.int IntKind.i8), .onl 111 toqTopic 1542], none, none, some [.hol .str, .onl 113 toqPart 3076]]⟩, [(.exit 2, ⟨[.any, .any, .one (.ptr 2 0), .one (.ptr 3 0), .one (.hol (.sl 98 tNode)), .one (.hol (.int IntKind.i64)), .one (.ptr 6 0), .any, .any, .any, .any, .any, .any, .any, .any, .any, .any, .any, .any, .any, .any, .any, .any, .any, .any, .any, .any, .any, .any, .any, .any, .any, .any, .any, .any, .any, .any, .any, .any, .any, .any, .any, .any, .any, .any, .any, .any, .any, .any, .any, .any, .any, .any, .any, .any, .any, .any, .any, .any, .any, .any, .any, .any, .any, .any, .any, .any, .any, .any, .any, .any, .any, .any, .any, .any, .any, .any, .any, .any, .any, .any, .any, .any, .any, .any, .any, .any, .any, .any, .any, .any], [none, none, some [.hol (.int IntKind.i32), .hol (.int IntKind.i8), .onl 111 toqTopic 1030], some [.hol (.int IntKind.i32), .hol (.int IntKind.i8), .onl 111 toqTopic 1542], none, none, some [.hol .str, .onl 113 toqPart 3076]]⟩)]⟩
-- FzoqOf_10 : lozoqOf_10.st.den → Tr (DenX lozoqOf_10.xs) | ((h9, (h10, (h11, (h12, ())))), ((h13, (h14, (h15, ()))), ((h16, (h17, (h18, ()))), ((h19, (h20, ())), ()))))
abbrev lozoqOf_5 : Lo := ⟨⟨[.any, .any, .one (.ptr 2 0), .one (.ptr 3 0), .one (.hol (.sl 98 tNode)), .one (.hol (.int IntKind.i64)), .any, .any, .any, .any, .any, .any, .any, .any, .any, .any, .any, .any, .any, .any, .any, .any, .any, .any, .any, .any, .any, .any, .any, .any, .any, .any, .any, .any, .any, .any, .any, .any, .any, .any, .any, .any, .any, .any, .any, .any, .any, .any, .any, .any, .any, .any, .any, .any, .any, .any, .any, .any, .any, .any, .any, .any, .any, .any, .any, .any, .any, .any, .any, .any, .any, .any, .any, .any, .any, .any, .any, .any, .any, .any, .any, .any, .any, .any, .any, .any, .any, .any, .any, .any, .any], [none, none, some [.hol (.int IntKind.i32), .hol (.int IntKind.i8), .onl 111 toqTopic 1030], some [.hol (.int IntKind.i32), .hol (.int IntKind.i8), .onl 111 toqTopic 1542]]⟩, [(.exit 0, ⟨[.any, .any, .one (.ptr 2 0), .one (.ptr 3 0), .any, .any, .any, .any, .any, .any, .any, .any, .any, .any, .any, .any, .any, .any, .any, .any, .any, .any, .any, .any, .any, .any, .any, .any, .any, .any, .any, .any, .any, .any, .any, .any, .any, .any, .any, .any, .any, .any, .any, .any, .any, .any, .any, .any, .any, .any, .any, .any, .any, .any, .any, .any, .any, .any, .any, .any, .any, .any, .any, .any, .any, .any, .any, .any, .any, .any, .any, .any, .any, .any, .any, .any, .any, .any, .any, .any, .any, .any, .any, .any, .any, .any, .any, .any, .any, .any, .any], [none, none, some [.hol (.int IntKind.i32), .hol (.int IntKind.i8), .onl 111 toqTopic 1030], some [.hol (.int IntKind.i32), .hol (.int IntKind.i8), .onl 111 toqTopic 1542]]⟩)]⟩
-- FzoqOf_5 : lozoqOf_5.st.den → Tr (DenX lozoqOf_5.xs) | ((h1, (h2, ())), ((h3, (h4, (h5, ()))), ((h6, (h7, (h8, ()))), ())))
def FzoqOf_10 (d : lozoqOf_10.st.den) : Tr (DenX lozoqOf_10.xs) :=
  .ite ((decide (d.1.2.2.2.1 = 0) && decide (d.2.2.2.1.2.1.length = 0)) && decide (spWts d.1.2.2.1 ≤ 4294967296))
    (.ret (.ret ((), ((d.1.1, (d.1.2.1, ())), (d.2.1, (d.2.2.1, ((d.2.2.2.1.1, (d.1.2.2.1.map spoqO, ())), ()))))))) .no
def FzoqOf_5 (d : lozoqOf_5.st.den) : Tr (DenX lozoqOf_5.xs) :=
  .ite ((decide (d.1.2.1 = 0) && decide (d.2.2.1.2.2.1.length = 0)) && decide (spWts d.1.1 ≤ 4294967296))
    (.ret (.ret ((), ((), (d.2.1, ((d.2.2.1.1, (d.2.2.1.2.1, (d.1.1.map spoqOT, ()))), ())))))) .no
def lpzoqOf : Lp := lpT [(5, loHd lozoqOf_5 FzoqOf_5), (10, loHd lozoqOf_10 FzoqOf_10)]
def stepzoqOf_10 {R : Type} (h9 : List (Nd)) (h10 : Int) (h11 : List (Nd)) (h12 : Int) (h13 : Int) (h14 : Int) (h15 : List toqTopic.den) (h16 : Int) (h17 : Int) (h18 : List toqTopic.den) (h19 : List Int) (h20 : List toqPart.den) (next : List (Nd) → Int → List (Nd) → Int → Int → Int → List toqTopic.den → Int → Int → List toqTopic.den → List Int → List toqPart.den → Option R) (out : DenX lozoqOf_10.xs → Option R) : Option R := bif decide (h12 < (↑h11.length : Int)) then bif decide (0 ≤ h12) && decide (h12 < (↑h11.length : Int)) then bif decide (0 ≤ h12) && decide (h12 < (↑h11.length : Int)) then bif decide (0 ≤ h12) && decide (h12 < (↑h11.length : Int)) then bif decide (0 ≤ h12) && decide (h12 < (↑h11.length : Int)) then bif decide (h20.length + 1 ≤ 4294967296) then next (h9) (h10) (h11) (IntKind.i64.wrap (h12 + 1)) (h13) (h14) (h15) (h16) (h17) (h18) (h19) (h20 ++ [(IntKind.i32.wrap (spAt (Tre.mk (h11.getD h12.toNat (Tre.mk (0, 0, false, [], ()) [])).1 (h11.getD h12.toNat (Tre.mk (0, 0, false, [], ()) [])).2) 0).1.snd.fst, IntKind.i32.wrap (spAt (Tre.mk (h11.getD h12.toNat (Tre.mk (0, 0, false, [], ()) [])).1 (h11.getD h12.toNat (Tre.mk (0, 0, false, [], ()) [])).2) 1).1.snd.fst, (spAt (Tre.mk (h11.getD h12.toNat (Tre.mk (0, 0, false, [], ()) [])).1 (h11.getD h12.toNat (Tre.mk (0, 0, false, [], ()) [])).2) 2).1.snd.fst, IntKind.i32.wrap (spAt (Tre.mk (h11.getD h12.toNat (Tre.mk (0, 0, false, [], ()) [])).1 (h11.getD h12.toNat (Tre.mk (0, 0, false, [], ()) [])).2) 3).1.snd.fst, ())]) else none else none else none else none else none else out (.ret ((), ((h9, (h10, ())), ((h13, (h14, (h15, ()))), ((h16, (h17, (h18, ()))), ((h19, (h20, ())), ()))))))
def itzoqOf_10 (n : Nat) (h9 : List (Nd)) (h10 : Int) (h11 : List (Nd)) (h12 : Int) (h13 : Int) (h14 : Int) (h15 : List toqTopic.den) (h16 : Int) (h17 : Int) (h18 : List toqTopic.den) (h19 : List Int) (h20 : List toqPart.den) : Option (DenX lozoqOf_10.xs) := lpN tt hdzoqOf dr lpzoqOf 0 Go.Proofs.Tryz.f50 (subL Go.Proofs.Tryz.f50 (topL Go.Proofs.Tryz.f50 0) 0) n (lozoqOf_10.st.mk' ((h9, (h10, (h11, (h12, ())))), ((h13, (h14, (h15, ()))), ((h16, (h17, (h18, ()))), ((h19, (h20, ())), ()))))) (decX lozoqOf_10.xs)
theorem slzoqOf_10 (n : Nat) (h9 : List (Nd)) (h10 : Int) (h11 : List (Nd)) (h12 : Int) (h13 : Int) (h14 : Int) (h15 : List toqTopic.den) (h16 : Int) (h17 : Int) (h18 : List toqTopic.den) (h19 : List Int) (h20 : List toqPart.den) : itzoqOf_10 (n + 1) h9 h10 h11 h12 h13 h14 h15 h16 h17 h18 h19 h20 = stepzoqOf_10 h9 h10 h11 h12 h13 h14 h15 h16 h17 h18 h19 h20 (itzoqOf_10 n) some := by kernel_rfl
def stepzoqOf_5 {R : Type} (h1 : List (Nd)) (h2 : Int) (h3 : Int) (h4 : Int) (h5 : List toqTopic.den) (h6 : Int) (h7 : Int) (h8 : List toqTopic.den) (next : List (Nd) → Int → Int → Int → List toqTopic.den → Int → Int → List toqTopic.den → Option R) (out : DenX lozoqOf_5.xs → Option R) : Option R := bif decide (h2 < (↑h1.length : Int)) then bif decide (0 ≤ h2) && decide (h2 < (↑h1.length : Int)) then bif decide (0 ≤ h2) && decide (h2 < (↑h1.length : Int)) then (FzoqOf_10 ((h1, (h2, ((spAt (Tre.mk (h1.getD h2.toNat (Tre.mk (0, 0, false, [], ()) [])).1 (h1.getD h2.toNat (Tre.mk (0, 0, false, [], ()) [])).2) 1).2, (0, ())))), ((h3, (h4, (h5, ()))), ((h6, (h7, (h8, ()))), (((spAt (Tre.mk (h1.getD h2.toNat (Tre.mk (0, 0, false, [], ()) [])).1 (h1.getD h2.toNat (Tre.mk (0, 0, false, [], ()) [])).2) 0).1.snd.snd.snd.fst, ([], ())), ()))))).run fun y => match y with | .ret ((), ((x43, x44, ()), (x45, x46, x47, ()), (x48, x49, x50, ()), (x51, x52, ()), ())) => (bif decide (x50.length + 1 ≤ 4294967296) then next (x43) (IntKind.i64.wrap (x44 + 1)) (x45) (x46) (x47) (x48) (x49) (x50 ++ [(x51, x52, ())]) else none) else none else none else out (.ret ((), ((), ((h3, (h4, (h5, ()))), ((h6, (h7, (h8, ()))), ())))))
def itzoqOf_5 (n : Nat) (h1 : List (Nd)) (h2 : Int) (h3 : Int) (h4 : Int) (h5 : List toqTopic.den) (h6 : Int) (h7 : Int) (h8 : List toqTopic.den) : Option (DenX lozoqOf_5.xs) := lpN tt hdzoqOf dr lpzoqOf 0 Go.Proofs.Tryz.f50 (topL Go.Proofs.Tryz.f50 0) n (lozoqOf_5.st.mk' ((h1, (h2, ())), ((h3, (h4, (h5, ()))), ((h6, (h7, (h8, ()))), ())))) (decX lozoqOf_5.xs)
theorem slzoqOf_5 (n : Nat) (h1 : List (Nd)) (h2 : Int) (h3 : Int) (h4 : Int) (h5 : List toqTopic.den) (h6 : Int) (h7 : Int) (h8 : List toqTopic.den) : itzoqOf_5 (n + 1) h1 h2 h3 h4 h5 h6 h7 h8 = stepzoqOf_5 h1 h2 h3 h4 h5 h6 h7 h8 (itzoqOf_5 n) some := by kernel_rfl
theorem loopzoqOf_10 {ps : List Nd} (hb : spWts ps ≤ 4294967296) (tops : List Nd) (i : Int) (re0 : Int) (lv0 : Int) (ts0 : List toqTopic.den) (re : Int) (lv : Int) (ts : List toqTopic.den) (tn : List Int) : ∀ (k j : Nat) (o : List toqPart.den), ps.length < j + k → j ≤ ps.length → o.length ≤ j →
    itzoqOf_10 k tops i ps j re0 lv0 ts0 re lv ts tn o = some (.ret ((), ((tops, (i, ())), ((re0, (lv0, (ts0, ()))), ((re, (lv, (ts, ()))), ((tn, (o ++ (ps.drop j).map spoqO, ())), ())))))) := by
  intro k
  have hlen := spWts_len ps
  induction k with
  | zero => intro j o h1 h2; omega
  | succ k ih =>
    intro j o h1 h2 h3
    rw [slzoqOf_10]
    unfold stepzoqOf_10
    by_cases hj : j < ps.length
    · refine (bif_true (decide_eq_true (show (j : Int) < (ps.length : Int) by omega)) _ _).trans ?_
      have hmem := spWt_mem (List.getElem_mem hj)
      have ih' := ih (j + 1) (o ++ [spoqO ps[j]]) (by omega) (by omega) (by simp; omega)
      have hd : ps.drop j = ps[j] :: ps.drop (j + 1) := List.drop_eq_getElem_cons hj
      rw [hd, wrap_i64 (n := (j : Int) + 1) (by omega) (by omega)]
      simp only [Int.toNat_natCast, getD_lt hj]
      generalize ps[j] = u at hmem ih' ⊢
      obtain ⟨ul, uk⟩ := u
      refine (bif_true (by simp; omega) _ _).trans ?_
      refine (bif_true (by simp; omega) _ _).trans ?_
      refine (bif_true (by simp; omega) _ _).trans ?_
      refine (bif_true (by simp; omega) _ _).trans ?_
      refine (bif_true (decide_eq_true (show o.length + 1 ≤ 4294967296 by omega)) _ _).trans ?_
      refine ih'.trans ?_
      simp only [List.map_cons, List.append_assoc, List.singleton_append]
    · refine (bif_false (decide_eq_false (show ¬ (j : Int) < (ps.length : Int) by omega)) _ _).trans ?_
      rw [List.drop_of_length_le (by omega)]
      simp
theorem loopzoqOf_5 {nds : List Nd} (hb : spWts nds ≤ 4294967296) (re0 : Int) (lv0 : Int) (ts0 : List toqTopic.den) (re : Int) (lv : Int) : ∀ (k j : Nat) (ts : List toqTopic.den), nds.length < j + k → j ≤ nds.length → ts.length ≤ j →
    itzoqOf_5 k nds j re0 lv0 ts0 re lv ts = some (.ret ((), ((), ((re0, (lv0, (ts0, ()))), ((re, (lv, (ts ++ (nds.drop j).map spoqOT, ()))), ()))))) := by
  intro k
  have hlen := spWts_len nds
  induction k with
  | zero => intro j o h1 h2; omega
  | succ k ih =>
    intro j ts h1 h2 h3
    rw [slzoqOf_5]
    unfold stepzoqOf_5
    by_cases hj : j < nds.length
    · refine (bif_true (decide_eq_true (show (j : Int) < (nds.length : Int) by omega)) _ _).trans ?_
      have hmem := spWt_mem (List.getElem_mem hj)
      have ih' := ih (j + 1) (ts ++ [spoqOT nds[j]]) (by omega) (by omega) (by simp; omega)
      have hd : nds.drop j = nds[j] :: nds.drop (j + 1) := List.drop_eq_getElem_cons hj
      rw [hd]
      simp only [Int.toNat_natCast, getD_lt hj]
      generalize nds[j] = u at hmem ih' ⊢
      obtain ⟨ul, uk⟩ := u
      refine (bif_true (by simp; omega) _ _).trans ?_
      refine (bif_true (by simp; omega) _ _).trans ?_
      have hw1 := spAt_wt (Tre.mk ul uk) 1
      have hw2 := spWts_kids (spAt (Tre.mk ul uk) 1)
      have cA : ((decide ((0 : Int) = 0) && decide (([] : List toqPart.den).length = 0)) && decide (spWts (spAt (Tre.mk ul uk) 1).kids ≤ 4294967296)) = true := by simp; omega
      refine (bif_true cA _ _).trans ?_
      refine (bif_true (decide_eq_true (show ts.length + 1 ≤ 4294967296 by omega)) _ _).trans ?_
      rw [wrap_i64 (n := (j : Int) + 1) (by omega) (by omega)]
      refine ih'.trans ?_
      simp only [List.map_cons, List.append_assoc, List.singleton_append]
    · refine (bif_false (decide_eq_false (show ¬ (j : Int) < (nds.length : Int) by omega)) _ _).trans ?_
      rw [List.drop_of_length_le (by omega)]
      simp
def bodyzoqOf (a0 : Nd) : Option iozoqOf.Res := (FzoqOf_5 (((spAt (Tre.mk a0.1 a0.2) 2).2, (0, ())), ((0, (0, ([], ()))), ((IntKind.i32.wrap (spAt (Tre.mk a0.1 a0.2) 0).1.snd.fst, (IntKind.i8.wrap (spAt (Tre.mk a0.1 a0.2) 1).1.snd.fst, ([], ()))), ())))).run fun y => match y with | .ret ((), ((), (x67, x68, x69, ()), (x70, x71, x72, ()), ())) => (some (Out.ret (((x70, x71, x72, ()), ()), ())))
theorem runzoqOf (a0 : Nd) : Io.run tt hdzoqOf dr lpzoqOf iozoqOf Go.Proofs.Tryz.f50 ((a0, ()), ()) = bodyzoqOf a0 := by kernel_rfl
theorem okzoqOf : HcOk prog 50 (ioHd iozoqOf FzoqOf) := by
  refine fn_sound (n := 400) hm (cs := cszoqOf) (.cons oktAt .nil) (lp := lpzoqOf) (fn := Go.Proofs.Tryz.f50) (by kernel_rfl) (by kernel_rfl) (by kernel_rfl) iozoqOf (.step (h0 := loHd lozoqOf_5 FzoqOf_5) (by kernel_rfl) (loop_sound (n := 400) hm (cs := cszoqOf) (.cons oktAt .nil) (lp := lpzoqOf) (fn := Go.Proofs.Tryz.f50) (.step (h0 := loHd lozoqOf_10 FzoqOf_10) (by kernel_rfl) (loop_sound (n := 400) hm (cs := cszoqOf) (.cons oktAt .nil) (lp := lpzoqOf) (fn := Go.Proofs.Tryz.f50) (.done (by kernel_rfl)) lozoqOf_10 FzoqOf_10 ?_) (.done (by kernel_rfl))) lozoqOf_5 FzoqOf_5 ?_) (.done (by kernel_rfl))) FzoqOf ?_
  · rintro ⟨⟨(tops : List Nd), (i : Int), (ps : List Nd), (j : Int), ⟨⟩⟩, ⟨⟨(re0 : Int), (lv0 : Int), (ts0 : List toqTopic.den), ⟨⟩⟩, ⟨(re : Int), (lv : Int), (ts : List toqTopic.den), ⟨⟩⟩, ⟨(tn : List Int), (o : List toqPart.den), ⟨⟩⟩, ⟨⟩⟩⟩ y hw hy
    obtain ⟨hg, hy⟩ := Tr.guard hy
    simp only [Bool.and_eq_true, decide_eq_true_eq] at hg
    obtain ⟨⟨h1, h2⟩, h3⟩ := hg
    have h1 : j = 0 := h1
    have h2 : o = [] := List.eq_nil_of_length_eq_zero h2
    have h3 : spWts ps ≤ 4294967296 := h3
    subst h1
    subst h2
    refine ⟨ps.length + 1, (loopzoqOf_10 h3 tops i re0 lv0 ts0 re lv ts tn (ps.length + 1) 0 [] (by omega) (by omega) (by simp)).trans ?_⟩
    rw [← hy, List.drop_zero]
    rfl
  · rintro ⟨⟨(nds : List Nd), (j : Int), ⟨⟩⟩, ⟨⟨(re0 : Int), (lv0 : Int), (ts0 : List toqTopic.den), ⟨⟩⟩, ⟨(re : Int), (lv : Int), (ts : List toqTopic.den), ⟨⟩⟩, ⟨⟩⟩⟩ y hw hy
    obtain ⟨hg, hy⟩ := Tr.guard hy
    simp only [Bool.and_eq_true, decide_eq_true_eq] at hg
    obtain ⟨⟨h1, h2⟩, h3⟩ := hg
    have h1 : j = 0 := h1
    have h2 : ts = [] := List.eq_nil_of_length_eq_zero h2
    have h3 : spWts nds ≤ 4294967296 := h3
    subst h1
    subst h2
    refine ⟨nds.length + 1, (loopzoqOf_5 h3 re0 lv0 ts0 re lv (nds.length + 1) 0 [] (by omega) (by omega) (by simp)).trans ?_⟩
    rw [← hy, List.drop_zero]
    rfl
  · rintro ⟨⟨(n : Nd), ⟨⟩⟩, ⟨⟩⟩ out hw ho
    obtain ⟨hg, ho⟩ := Tr.guard ho
    have hg : spWt n ≤ 4294967296 := of_decide_eq_true hg
    cases ho
    refine (runzoqOf n).trans ?_
    unfold bodyzoqOf
    obtain ⟨nl, nk⟩ := n
    have hw1 := spAt_wt (Tre.mk nl nk) 2
    have hw2 := spWts_kids (spAt (Tre.mk nl nk) 2)
    have c1 : ((decide ((0 : Int) = 0) && decide (([] : List toqTopic.den).length = 0)) && decide (spWts (spAt (Tre.mk nl nk) 2).kids ≤ 4294967296)) = true := by simp; omega
    refine (bif_true c1 _ _).trans ?_
    show _ = some (Out.ret ((spoqOM (Tre.mk nl nk), ()), ()))
    unfold spoqOM
    rfl
abbrev iozoqTwin : Io := ⟨[.dat toqMsg true false], [], [], [.dat toqMsg true false], none⟩
def FzoqTwin (d : iozoqTwin.In) : Tr iozoqTwin.Res := .ite (spoqLens d.1.1.2.2.1 && decide (spWt (spoqFull d.1.1) ≤ 4294967296)) (.ret (.ret ((d.1.1, ()), ()))) .no
abbrev cszoqTwin : List (Nat × Hc) := [(52, ioHd iozoqFull FzoqFull), (51, ioHd iotTwin FtTwin), (50, ioHd iozoqOf FzoqOf)]
def hdzoqTwin : Hd := hdT cszoqTwin
def lpzoqTwin : Lp := lpT []
def bodyzoqTwin (a0 : Int) (a1 : Int) (a2 : List toqTopic.den) : Option iozoqTwin.Res := bif spoqLens a2 then bif decide (spWt (Tre.mk (spoqFull (a0, a1, a2, ())).1 (spoqFull (a0, a1, a2, ())).2) ≤ 4294967296) then bif decide (spWt (Tre.mk (spoqFull (a0, a1, a2, ())).1 (spoqFull (a0, a1, a2, ())).2) ≤ 4294967296) then some (Out.ret ((spoqOM (Tre.mk (spoqFull (a0, a1, a2, ())).1 (spoqFull (a0, a1, a2, ())).2), ()), ())) else none else none else none
theorem runzoqTwin (a0 : Int) (a1 : Int) (a2 : List toqTopic.den) : Io.run tt hdzoqTwin dr lpzoqTwin iozoqTwin Go.Proofs.Tryz.f14 (((a0, a1, a2, ()), ()), ()) = bodyzoqTwin a0 a1 a2 := by kernel_rfl
theorem okzoqTwin : HcOk prog 14 (ioHd iozoqTwin FzoqTwin) := by
  refine fn_sound (n := 400) hm (cs := cszoqTwin) (.cons okzoqFull (.cons oktTwin (.cons okzoqOf .nil))) (lp := lpzoqTwin) (fn := Go.Proofs.Tryz.f14) (by kernel_rfl) (by kernel_rfl) (by kernel_rfl) iozoqTwin (.done (by kernel_rfl)) FzoqTwin ?_
  rintro ⟨⟨m, ⟨⟩⟩, ⟨⟩⟩ out hw ho
  obtain ⟨hg, ho⟩ := Tr.guard ho
  simp only [Bool.and_eq_true, decide_eq_true_eq] at hg
  obtain ⟨h1, h2⟩ := hg
  have h1 : spoqLens m.2.2.1 = true := h1
  have h2 : spWt (spoqFull m) ≤ 4294967296 := h2
  cases ho
  have hf := spoqOM_full (m := m) hw.1.1
  obtain ⟨re, lv, ts, ⟨⟩⟩ := m
  refine (runzoqTwin re lv ts).trans ?_
  unfold bodyzoqTwin
  generalize spoqFull (re, (lv, (ts, ()))) = n at h2 hf ⊢
  obtain ⟨nl, nk⟩ := n
  refine (bif_true h1 _ _).trans ?_
  refine (bif_true (decide_eq_true h2) _ _).trans ?_
  refine (bif_true (decide_eq_true h2) _ _).trans ?_
  exact congrArg (fun x => some (Out.ret ((x, ()), ()))) hf
abbrev iozoqAlike : Io := ⟨[.dat toqMsg true false, .dat toqMsg true false], [], [], [dB], none⟩
def FzoqAlike (d : iozoqAlike.In) : Tr iozoqAlike.Res := .ite (spoqLens d.1.1.2.2.1 && spoqLens d.1.2.1.2.2.1) (.ret (.ret ((spEqT d.1.1 d.1.2.1, ()), ()))) .no
abbrev cszoqAlike : List (Nat × Hc) := [(52, ioHd iozoqFull FzoqFull), (66, ioHd iotAlike FtAlike)]
def hdzoqAlike : Hd := hdT cszoqAlike
def lpzoqAlike : Lp := lpT []
def bodyzoqAlike (a0 : Int) (a1 : Int) (a2 : List toqTopic.den) (a3 : Int) (a4 : Int) (a5 : List toqTopic.den) : Option iozoqAlike.Res := bif spoqLens a2 then bif spoqLens a5 then some (Out.ret ((spEqN (Tre.mk (spoqFull (a0, a1, a2, ())).1 (spoqFull (a0, a1, a2, ())).2) (Tre.mk (spoqFull (a3, a4, a5, ())).1 (spoqFull (a3, a4, a5, ())).2), ()), ())) else none else none
theorem runzoqAlike (a0 : Int) (a1 : Int) (a2 : List toqTopic.den) (a3 : Int) (a4 : Int) (a5 : List toqTopic.den) : Io.run tt hdzoqAlike dr lpzoqAlike iozoqAlike Go.Proofs.Tryz.f17 (((a0, a1, a2, ()), (a3, a4, a5, ()), ()), ()) = bodyzoqAlike a0 a1 a2 a3 a4 a5 := by kernel_rfl
theorem okzoqAlike : HcOk prog 17 (ioHd iozoqAlike FzoqAlike) := by
  refine fn_sound (n := 400) hm (cs := cszoqAlike) (.cons okzoqFull (.cons oktAlike .nil)) (lp := lpzoqAlike) (fn := Go.Proofs.Tryz.f17) (by kernel_rfl) (by kernel_rfl) (by kernel_rfl) iozoqAlike (.done (by kernel_rfl)) FzoqAlike ?_
  rintro ⟨⟨a, b, ⟨⟩⟩, ⟨⟩⟩ out hw ho
  obtain ⟨hg, ho⟩ := Tr.guard ho
  simp only [Bool.and_eq_true] at hg
  obtain ⟨h1, h2⟩ := hg
  have h1 : spoqLens a.2.2.1 = true := h1
  have h2 : spoqLens b.2.2.1 = true := h2
  cases ho
  have hf := spoqOM_full (m := a) hw.1.1
  have hf' := spoqOM_full (m := b) hw.1.2.1
  have key : spEqN (spoqFull a) (spoqFull b) = spEqT a b := by
    rw [Bool.eq_iff_iff, spEqN_iff, spEqT_iff]
    exact ⟨fun h => by rw [← hf, ← hf', h], fun h => by rw [h]⟩
  obtain ⟨reA, lvA, tsA, ⟨⟩⟩ := a
  obtain ⟨reB, lvB, tsB, ⟨⟩⟩ := b
  refine (runzoqAlike reA lvA tsA reB lvB tsB).trans ?_
  unfold bodyzoqAlike
  generalize spoqFull (reA, (lvA, (tsA, ()))) = n at key ⊢
  generalize spoqFull (reB, (lvB, (tsB, ()))) = n' at key ⊢
  obtain ⟨nl, nk⟩ := n
  obtain ⟨nl', nk'⟩ := n'
  refine (bif_true h1 _ _).trans ?_
  refine (bif_true h2 _ _).trans ?_
  exact congrArg (fun x => some (Out.ret ((x, ()), ()))) key
abbrev iozoqEnc : Io := ⟨[dI, .dat toqMsg true false], [], [], [dL, dI], none⟩
@[irreducible] noncomputable def spoqW (v : Int) (m : toqMsg.den) : List Int × Int := spEW 2 false v (spoqFull m)
def FzoqEnc (d : iozoqEnc.In) : Tr iozoqEnc.Res := .ite (spoqLens d.1.2.1.2.2.1 && decide (8 * spWt (spoqFull d.1.2.1) ≤ 4294967296)) (.ret (.ret (((spoqW d.1.1 d.1.2.1).1, ((spoqW d.1.1 d.1.2.1).2, ())), ()))) .no
abbrev cszoqEnc : List (Nat × Hc) := [(52, ioHd iozoqFull FzoqFull), (53, ioHd iotbEW FtbEW)]
def hdzoqEnc : Hd := hdT cszoqEnc
def lpzoqEnc : Lp := lpT []
def bodyzoqEnc (a0 : Int) (a1 : Int) (a2 : Int) (a3 : List toqTopic.den) : Option iozoqEnc.Res := bif spoqLens a3 then bif decide (8 * spWt (Tre.mk (spoqFull (a1, a2, a3, ())).1 (spoqFull (a1, a2, a3, ())).2) ≤ 4294967296) then some (Out.ret (((spEW 2 false a0 (Tre.mk (spoqFull (a1, a2, a3, ())).1 (spoqFull (a1, a2, a3, ())).2)).fst, (spEW 2 false a0 (Tre.mk (spoqFull (a1, a2, a3, ())).1 (spoqFull (a1, a2, a3, ())).2)).snd, ()), ())) else none else none
theorem runzoqEnc (a0 : Int) (a1 : Int) (a2 : Int) (a3 : List toqTopic.den) : Io.run tt hdzoqEnc dr lpzoqEnc iozoqEnc Go.Proofs.Tryz.f15 ((a0, (a1, a2, a3, ()), ()), ()) = bodyzoqEnc a0 a1 a2 a3 := by kernel_rfl
theorem okzoqEnc : HcOk prog 15 (ioHd iozoqEnc FzoqEnc) := by
  refine fn_sound (n := 400) hm (cs := cszoqEnc) (.cons okzoqFull (.cons oktbEW .nil)) (lp := lpzoqEnc) (fn := Go.Proofs.Tryz.f15) (by kernel_rfl) (by kernel_rfl) (by kernel_rfl) iozoqEnc (.done (by kernel_rfl)) FzoqEnc ?_
  rintro ⟨⟨(v : Int), m, ⟨⟩⟩, ⟨⟩⟩ out hw ho
  obtain ⟨hg, ho⟩ := Tr.guard ho
  simp only [Bool.and_eq_true, decide_eq_true_eq] at hg
  obtain ⟨h1, h2⟩ := hg
  have h1 : spoqLens m.2.2.1 = true := h1
  have h2 : 8 * spWt (spoqFull m) ≤ 4294967296 := h2
  cases ho
  show _ = some (Out.ret (((spoqW v m).1, ((spoqW v m).2, ())), ()))
  unfold spoqW
  obtain ⟨re, lv, ts, ⟨⟩⟩ := m
  refine (runzoqEnc v re lv ts).trans ?_
  unfold bodyzoqEnc
  generalize spoqFull (re, (lv, (ts, ()))) = n at h2 ⊢
  obtain ⟨nl, nk⟩ := n
  refine (bif_true h1 _ _).trans ?_
  exact bif_true (decide_eq_true h2) _ _
end
end Go.Proofs.YtjpeefegeobgfaaGreat.Sym
namespace Go.Proofs.YtjpeefegeobgfaaGreat.Sym
open Go
set_option linter.unusedSimpArgs false
set_option linter.unusedVariables false
noncomputable section
def woqP (v : Int) (p : toqPart.den) : List Int × Int := spSeq (spBE p.1 4, 0) (spSeq (if 3 ≤ v ∧ v ≤ 3 then (spBE p.2.1 4, 0) else ([], 0)) (spSeq (spBE p.2.2.1 8, 0) (spSeq (if 0 ≤ v ∧ v ≤ 0 then (spBE p.2.2.2.1 4, 0) else ([], 0)) ([], 0))))
def woqT (v : Int) (t : toqTopic.den) : List Int × Int := spSeq (spTxt t.1) (spSeq (spArrW (woqP v) t.2.1) ([], 0))
def woqM (v : Int) (m : toqMsg.den) : List Int × Int := spSeq (spBE m.1 4, 0) (spSeq (if 2 ≤ v ∧ v ≤ 3 then (spBE m.2.1 1, 0) else ([], 0)) (spSeq (spArrW (woqT v) m.2.2.1) (([], 0))))
theorem Wri.oqP (v : Int) (p : toqPart.den) : Wri (woqP v p) (spoqPE v p) := (Wri.put p.1 4).seq ((Wri.hasE v 3 3 p.2.1 4).seq ((Wri.put p.2.2.1 8).seq ((Wri.hasE v 0 0 p.2.2.2.1 4).seq (Wri.nop))))
theorem Wri.oqT (v : Int) (t : toqTopic.den) : Wri (woqT v t) (spoqTE v t) := (Wri.str _).seq ((Wri.items fun p hp => Wri.oqP v p).seq Wri.nop)
abbrev foqP : Fd := fld [112, 97, 114, 116] 10 0 3 [fld [105, 110, 100, 101, 120] 3 0 3 [], fld [101, 112, 111, 99, 104] 3 3 3 [], fld [116, 105, 109, 101] 4 0 3 [], fld [109, 111, 115, 116] 3 0 0 []]
abbrev foqT : Fd := fld [116, 111, 112, 105, 99] 10 0 3 [fld [110, 97, 109, 101] 5 0 3 [], fld [112, 97, 114, 116, 115] 9 0 3 [foqP]]
theorem spW_oqP {v : Int} {p : toqPart.den} (hv : 0 ≤ v ∧ v ≤ 3) (h : toqPart.wf p) : spW foqP v (spoqF p) = woqP v p := by
  unfold spoqF woqP
  rw [spW_row, spWZ_has (spHas_in hv.1 hv.2), spWZ_o, spWZ_has (spHas_in hv.1 hv.2), spWZ_o, spWZip_nl, spW_num (by decide) (w := 4) rfl (spFits_i32 h.1), spW_num (by decide) (w := 4) rfl (spFits_i32 h.2.1), spW_num (by decide) (w := 4) rfl (spFits_i32 h.2.2.2.1), spW_num (by decide) (w := 8) rfl (spFits_i64 p.2.2.1)]
  try rfl
theorem spW_oqT {v : Int} {t : toqTopic.den} (hv : 0 ≤ v ∧ v ≤ 3) (h : toqTopic.wf t) : spW foqT v (spoqFT t) = woqT v t := by
  unfold spoqFT woqT
  rw [spW_row, spWZ_has (spHas_in hv.1 hv.2), spWZ_has (spHas_in hv.1 hv.2), spWZip_nl, spW_text, spW_rows, spArrW_congr fun p hp => spW_oqP hv (h.2.1.2 p hp)]
def okoqP (v : Int) (p : toqPart.den) : Bool := (if 3 ≤ v ∧ v ≤ 3 then true else (p.2.1 == 0)) && ((if 0 ≤ v ∧ v ≤ 0 then true else (p.2.2.2.1 == 0)))
theorem spCut_oqP {v : Int} {p : toqPart.den} (hv : 0 ≤ v ∧ v ≤ 3) : (spCut foqP v (spoqF p)).2 = okoqP v p := by
  unfold spoqF okoqP
  rw [spCut_row, spCZ_has (spHas_in hv.1 hv.2), spCZ_opt, spCZ_has (spHas_in hv.1 hv.2), spCZ_opt, spCZ_nil, spCut_leaf (by decide) (by decide), spCut_leaf (by decide) (by decide), spCut_leaf (by decide) (by decide), spCut_leaf (by decide) (by decide), spZero_num, spZero_num]
  simp only [Bool.true_and, Bool.and_true]
theorem spCut_oqT {v : Int} {t : toqTopic.den} (hv : 0 ≤ v ∧ v ≤ 3) : (spCut foqT v (spoqFT t)).2 = t.2.1.all (okoqP v) := by
  unfold spoqFT
  rw [spCut_row, spCZ_has (spHas_in hv.1 hv.2), spCZ_has (spHas_in hv.1 hv.2), spCZ_nil, spCut_leaf (by decide) (by decide), spCut_rows]
  simp only [spCut_oqP hv, Bool.true_and, Bool.and_true]
theorem spWhole_oq (m : toqMsg.den) : spWholeZ spT2q [ndNum 3 m.1, ndNum 1 m.2.1, ndRows (m.2.2.1.map spoqFT)] := by
  unfold spT2q spTopics
  refine spWhole_cons (spWhole_leaf (by decide) (by decide)) (spWhole_cons (spWhole_leaf (by decide) (by decide)) (spWhole_cons ?_ spWhole_nil))
  refine spWhole_rows _ _ fun t => spWhole_row rfl (spWhole_cons (spWhole_leaf (by decide) (by decide)) (spWhole_cons ?_ spWhole_nil))
  exact spWhole_rows _ _ fun p => spWhole_row rfl (spWhole_cons (spWhole_leaf (by decide) (by decide)) (spWhole_cons (spWhole_leaf (by decide) (by decide)) (spWhole_cons (spWhole_leaf (by decide) (by decide)) (spWhole_cons (spWhole_leaf (by decide) (by decide)) spWhole_nil))))
def okoqM (v : Int) (m : toqMsg.den) : Bool := (if 2 ≤ v ∧ v ≤ 3 then true else (m.2.1 == 0)) && ((m.2.2.1.all fun t => t.2.1.all (okoqP v)))
theorem spoqLP_lk {e v : Int} {p : toqPart.den} : spoqLP v p (e, (false, ([] : List Int))) = (spLk e (okoqP v p), (false, [])) := by
  unfold spoqLP okoqP
  rw [spLacks_lk, spLacks_lk, spLk_and]
theorem spoqLPs_lk {v : Int} : ∀ {ps : List toqPart.den} {e : Int}, spoqLPs v ps (e, (false, ([] : List Int))) = (spLk e (ps.all (okoqP v)), (false, []))
  | [], e => by rw [List.all_nil, spLk_true]; rfl
  | p :: ps, e => by
    show spoqLPs v ps (spoqLP v p (e, (false, []))) = _
    rw [spoqLP_lk, spoqLPs_lk, spLk_and, List.all_cons]
theorem spoqLR_lk {v : Int} : ∀ {ts : List toqTopic.den} {e : Int}, spoqLR v ts (e, (false, ([] : List Int))) = (spLk e (ts.all fun t => t.2.1.all (okoqP v)), (false, []))
  | [], e => by rw [List.all_nil, spLk_true]; rfl
  | t :: ts, e => by
    show spoqLR v ts (spoqLPs v t.2.1 (e, (false, []))) = _
    rw [spoqLPs_lk, spoqLR_lk, spLk_and, List.all_cons]
theorem cz_oq {v : Int} {m : toqMsg.den} (hv : 0 ≤ v ∧ v ≤ 3) : (spCZip v spT2q [ndNum 3 m.1, ndNum 1 m.2.1, ndRows (m.2.2.1.map spoqFT)]).2 = okoqM v m := by
  unfold spT2q spTopics okoqM
  rw [spCZ_has (spHas_in hv.1 hv.2), spCZ_opt, spCZ_has (spHas_in hv.1 hv.2), spCZ_nil, spCut_leaf (by decide) (by decide), spCut_leaf (by decide) (by decide), spCut_rows, spZero_num]
  simp only [spCut_oqT hv, Bool.true_and, Bool.and_true, Bool.and_assoc]
theorem wz_oq {v : Int} {m : toqMsg.den} (hv : 0 ≤ v ∧ v ≤ 3) (hm : toqMsg.wf m) : spWZip v spT2q [ndNum 3 m.1, ndNum 1 m.2.1, ndRows (m.2.2.1.map spoqFT)] = woqM v m := by
  unfold spT2q spTopics woqM
  rw [spWZ_has (spHas_in hv.1 hv.2), spWZ_o, spWZ_has (spHas_in hv.1 hv.2), spWZip_nl, spW_num (by decide) (w := 4) rfl (spFits_i32 hm.1), spW_num (by decide) (w := 1) rfl (spFits_i8 hm.2.1), spW_rows, spArrW_congr fun t ht => spW_oqT hv (hm.2.2.1.2 t ht)]
  try rfl
theorem oq_law {v : Int} {m : toqMsg.den} (hm : toqMsg.wf m) : (spDoneO (spoqE v m), spDoneE (spoqE v m)) = spoqW v m := by
  unfold spoqW spoqFull
  rw [spEW_eq (t := spT2q) rfl spChk_2q rfl (spWhole_oq m)]
  unfold spoqE
  rw [spLacks_lk, spoqLR_lk, spLk_and]
  have hr : Wri (woqM v m) _ := (Wri.put m.1 4).seq ((Wri.hasE v 2 3 m.2.1 1).seq ((Wri.items fun t ht => Wri.oqT v t).seq (Wri.nop)))
  refine (hr.done _).trans ?_
  unfold spNewE
  by_cases hv : v < 0 ∨ 3 < v
  · rw [if_pos hv, if_pos hv]
    exact if_pos (by simp [spLk])
  rw [if_neg hv, if_neg hv]
  have hv' : 0 ≤ v ∧ v ≤ 3 := by omega
  rw [cz_oq hv', wz_oq hv' hm]
  show (if spLk 0 (okoqM v m) ≠ 0 then _ else _) = _
  cases hz : okoqM v m
  · exact (if_pos (by decide)).trans (show ([], spLk 0 (okoqM v m)) = _ by rw [hz]; rfl)
  · exact (if_neg (by decide)).trans (if_neg (by decide)).symm
--@alias eoqMsg leat/offsets.EncodeReq
abbrev ioeoqMsg : Io := iooqMsg
def FeoqMsg (d : ioeoqMsg.In) : Tr ioeoqMsg.Res := .ret (.ret (((spoqW d.1.1 d.1.2.1).1, ((spoqW d.1.1 d.1.2.1).2, ())), ()))
theorem okeoqMsg : HcOk prog 16 (ioHd ioeoqMsg FeoqMsg) := by
  refine HcOk.weakW okoqMsg ?_
  rintro ⟨⟨(v : Int), m, ⟨⟩⟩, ⟨⟩⟩ y hw hy
  rw [← hy]
  have h := oq_law (v := v) (m := m) hw.1.2.1
  show some (Out.ret ((spDoneO (spoqE v m), (spDoneE (spoqE v m), ())), ())) = some (Out.ret (((spoqW v m).1, ((spoqW v m).2, ())), ()))
  rw [← h]
theorem okoqP_iff {v : Int} {p : toqPart.den} (h : okoqP v p = true) : (¬ (3 ≤ v ∧ v ≤ 3) → p.2.1 = 0) ∧ (¬ (0 ≤ v ∧ v ≤ 0) → p.2.2.2.1 = 0) := by
  unfold okoqP at h
  simp only [Bool.and_eq_true] at h
  exact ⟨fun hv => by have h1 := h.1; rw [if_neg hv] at h1; simpa using h1, fun hv => by have h1 := h.2; rw [if_neg hv] at h1; simpa using h1⟩
theorem okoqM_iff {v : Int} {m : toqMsg.den} (h : okoqM v m = true) : (¬ (2 ≤ v ∧ v ≤ 3) → m.2.1 = 0) ∧ (m.2.2.1.all fun t => t.2.1.all (okoqP v)) = true := by
  unfold okoqM at h
  simp only [Bool.and_eq_true] at h
  exact ⟨fun hv => by have h1 := h.1; rw [if_neg hv] at h1; simpa using h1, h.2⟩
theorem Rd.oqP {b : List Int} {p : toqPart.den} {v : Int} (h : toqPart.wf p) (hk : okoqP v p = true) : Rd b p (woqP v p) (spoqPD v b) :=
  (Rd.seq (fun a r => (a, r)) (Rd.num (wrapBE_i32 h.1)) (Rd.seq (fun a r => (a, r)) (Rd.opt (wrapBE_i32 h.2.1) (okoqP_iff hk).1) (Rd.seq (fun a r => (a, r)) (Rd.num (wrapBE_i64 h.2.2.1)) (Rd.seq (fun a r => (a, r)) (Rd.opt (wrapBE_i32 h.2.2.2.1) (okoqP_iff hk).2) (Rd.nop b ()))))).congr fun s => by unfold spoqPD; rfl
theorem Rd.oqT {b : List Int} {t : toqTopic.den} {v : Int} (h : toqTopic.wf t) (hk : t.2.1.all (okoqP v) = true) : Rd b t (woqT v t) (spoqTD v b) :=
  (Rd.seq (fun a r => (a, r)) (Rd.txt t.1) (Rd.seq (fun a r => (a, r)) (Rd.list fun p hp => Rd.oqP (h.2.1.2 p hp) (List.all_eq_true.1 hk p hp)) (Rd.nop b ()))).congr fun s => by unfold spoqTD spoqPsD; rfl
theorem Rd.oqM {b : List Int} {m : toqMsg.den} {v : Int} (h : toqMsg.wf m) (hk0 : okoqM v m = true) : Rd b m (woqM v m) (spoqDB v b) :=
  have hk := (okoqM_iff hk0).2
  (Rd.seq (fun a r => (a, r)) (Rd.num (wrapBE_i32 h.1)) (Rd.seq (fun a r => (a, r)) (Rd.opt (wrapBE_i8 h.2.1) (okoqM_iff hk0).1) (Rd.seq (fun a r => (a, r)) (Rd.list fun t ht => Rd.oqT (h.2.2.1.2 t ht) (List.all_eq_true.1 hk t ht)) (Rd.nop b ())))).congr fun s => by unfold spoqDB spoqTsD; rfl
theorem oq_wrote {v : Int} {m : toqMsg.den} (hm : toqMsg.wf m) (h : (spoqW v m).2 = 0) : 0 ≤ v ∧ v ≤ 3 ∧ okoqM v m = true ∧ (woqM v m).2 = 0 ∧ (spoqW v m).1 = (woqM v m).1 ∧ (spoqW v m).1.length ≤ 130048 := by
  have hlen : (spoqW v m).1.length ≤ 130048 := by unfold spoqW; exact spEW_len _ _ _ _
  unfold spoqW spoqFull at h hlen ⊢
  rw [spEW_eq (t := spT2q) rfl spChk_2q rfl (spWhole_oq m)] at h hlen ⊢
  by_cases hv : v < 0 ∨ 3 < v
  · rw [if_pos hv] at h; cases h
  rw [if_neg hv] at h hlen ⊢
  have hv' : 0 ≤ v ∧ v ≤ 3 := by omega
  rw [cz_oq hv', wz_oq hv' hm] at h hlen ⊢
  generalize hz : okoqM v m = z at h hlen ⊢
  cases z with
  | false => rw [if_pos rfl] at h; cases h
  | true =>
    rw [if_neg (by decide)] at h hlen ⊢
    by_cases h1 : (woqM v m).2 = 0
    · rw [if_neg (by simpa using h1)] at h hlen ⊢
      by_cases h2 : 130048 < (woqM v m).1.length
      · rw [if_pos h2] at h; cases h
      · rw [if_neg h2] at h hlen ⊢
        exact ⟨hv'.1, hv'.2, rfl, h1, rfl, hlen⟩
    · rw [if_pos h1] at h
      exact absurd h h1
theorem oq_back {v : Int} {m : toqMsg.den} (hm : toqMsg.wf m) (h : (spoqW v m).2 = 0) :
    spoqD v (spoqW v m).1 = (m, 0) ∧ (spoqD v ((spoqW v m).1.take ((spoqW v m).1.length - 1))).2 = 1 := by
  obtain ⟨h1, h2, h3, h4, h5, h6⟩ := oq_wrote hm h
  rw [h5] at h6 ⊢
  generalize hr : (woqM v m).1 = r at h6 ⊢
  have hne : r ≠ [] := by
    intro e
    have h4c := h4
    have hl' : (woqM v m).1.length = 0 := by rw [hr, e]; rfl
    unfold woqM at h4c hl'
    have s0 := spSeq_zero h4c
    have l0 := congrArg List.length s0.2.2
    rw [List.length_append] at l0
    have s1 := spSeq_zero s0.2.1
    have l1 := congrArg List.length s1.2.2
    rw [List.length_append] at l1
    have s2 := spSeq_zero s1.2.1
    have l2 := congrArg List.length s2.2.2
    rw [List.length_append] at l2
    have h8 := spArrW_len s2.1
    omega
  refine ⟨?_, ?_⟩
  · have key := (Rd.oqM (b := r) hm h3 h4).full 0 [] (Nat.zero_le _) (by rw [hr]; simp)
    have key : spoqDB v r (0, 0) = (m, (0, ((0 + (woqM v m).1.length : Nat) : Int))) := key
    rw [hr] at key
    unfold spoqD
    rw [if_pos ⟨h1, h2, by omega⟩, key]
    have he : spDEnd r (0, ((0 + r.length : Nat) : Int)) = 0 := by
      unfold spDEnd spEnd
      rw [if_pos rfl, if_neg (by omega)]
    rw [if_pos he]
  · obtain ⟨t, ht, htr⟩ := take_last hne
    have key := (Rd.oqM (b := r.take (r.length - 1)) hm h3 h4).short 0 t (Nat.zero_le _) ht (by rw [hr]; exact htr)
    have key : (spoqDB v (r.take (r.length - 1)) (0, 0)).2.1 = 1 := key
    unfold spoqD
    rw [if_pos ⟨h1, h2, by rw [List.length_take]; omega⟩]
    have he : spDEnd (r.take (r.length - 1)) (spoqDB v (r.take (r.length - 1)) (0, 0)).2 = 1 := by
      unfold spDEnd
      rw [if_neg (by rw [key]; decide)]; exact key
    rw [he, if_neg (by decide)]
end
end Go.Proofs.YtjpeefegeobgfaaGreat.Sym
namespace Go.Proofs.YtjpeefegeobgfaaGreat.Sym
open Go
set_option linter.unusedSimpArgs false
set_option linter.unusedVariables false
noncomputable section
def spN8E (x : Int) (s : EnS) : EnS := spPutE x 8 s
def spNsE (xs : List Int) (s : EnS) : EnS := spItems spN8E xs s
theorem spN8E_le {s : EnS} (x : Int) (h : s.2.2.length ≤ 130048) : (spN8E x s).2.2.length ≤ 130048 := spPutE_le _ _ h
theorem spNsE_le {s : EnS} (xs : List Int) (h : s.2.2.length ≤ 130048) : (spNsE xs s).2.2.length ≤ 130048 := spItems_le (fun x s => spN8E_le x) xs h
def spHasNs (v lo hi : Int) (xs : List Int) (s : EnS) : EnS := if lo ≤ v ∧ v ≤ hi then spNsE xs s else s
theorem spHasNs_in {v lo hi : Int} {xs : List Int} {s : EnS} (h : lo ≤ v ∧ v ≤ hi) : spHasNs v lo hi xs s = spNsE xs s := by unfold spHasNs; rw [if_pos h]
theorem spHasNs_out {v lo hi : Int} {xs : List Int} {s : EnS} (h : ¬ (lo ≤ v ∧ v ≤ hi)) : spHasNs v lo hi xs s = s := by unfold spHasNs; rw [if_neg h]
theorem spHasNs_le {s : EnS} (v lo hi : Int) (xs : List Int) (h : s.2.2.length ≤ 130048) : (spHasNs v lo hi xs s).2.2.length ≤ 130048 := by
  unfold spHasNs
  split
  · exact spNsE_le xs h
  · exact h
abbrev encOutN (v : Int) (s : EnS) : (Int × (Int × (Bool × Unit))) × ((List Int × (Int × Unit)) × Unit) := ((v, (s.1, (s.2.1, ()))), ((s.2.2, (130048, ())), ()))
@[irreducible] noncomputable def spNsD (b : List Int) (s : DeS) : List Int × DeS := spList (spDn .i64 8 b) b s
theorem spNsD_ok {b : List Int} {s : DeS} (h : spDok b s.2 = true) : spDok b (spNsD b s).2.2 = true := by
  unfold spNsD
  exact spList_ok (fun s h => spDn_ok .i64 8 h) h
def spDHasNs (v lo hi : Int) (b : List Int) (s : DeS) : List Int × DeS := if spDHas v lo hi s.1 = true then spNsD b s else ([], s)
theorem spDHasNs_ok {v lo hi : Int} {b : List Int} {s : DeS} (h : spDok b s.2 = true) : spDok b (spDHasNs v lo hi b s).2.2 = true := by
  unfold spDHasNs
  split
  · exact spNsD_ok h
  · exact h
theorem spDHas_rng {v lo hi e : Int} (h : spDHas v lo hi e = true) : lo ≤ v ∧ v ≤ hi := by
  unfold spDHas at h
  split at h
  · rename_i h'; exact h'.2
  · cases h
theorem spDHasN_in {k : IntKind} {n : Nat} {v lo hi : Int} {b : List Int} (h : lo ≤ v ∧ v ≤ hi) (s : DeS) : spDHasN k n v lo hi b s = spDn k n b s := by
  unfold spDHasN spDHas
  by_cases he : s.1 = 0
  · rw [if_pos (by rw [if_pos ⟨he, h⟩])]
  · rw [if_neg (by rw [if_neg (fun hh => he hh.1)]; decide)]
    unfold spDn; rw [if_neg he]
abbrev decOutN (v : Int) (b : List Int) (s : DeS) : (Int × (Int × Unit)) × ((List Int × (Int × Unit)) × Unit) := ((v, (s.1, ())), ((b, (s.2, ())), ()))
abbrev ioeNs : Io := ⟨[.ptr 0 0, .dat (.sl 2 (.int .i64)) false false, .fnc 64 true [0]], oEnc, [], [], none⟩
def FeNs (d : ioeNs.In) : Tr ioeNs.Res := .ite (encOk d.2) (.ret (.ret ((), encOut d.2.1.2.1 (spNsE d.1.2.1 (encSt d.2))))) .no
abbrev cseNs : List (Nat × Hc) := [(137, ioHd ioeFail FeFail), (56, ioHd ioeI32 FeI32), (64, ioHd ioeI64 FeI64)]
def hdeNs : Hd := hdT cseNs
abbrev loeNs_5 : Lo := ⟨⟨[.any, .any, .one (.fnp 64 true [0]), .any, .any, .any, .any, .any, .any, .any, .any, .any, .any, .any, .any, .any, .any, .any, .one (.hol (.sl 2 (Ty.int IntKind.i64))), .one (.hol (.int IntKind.i64)), .one (.hol (.int IntKind.i64)), .any, .any, .any, .any, .any, .any, .any], [some [.ptr 1 0, .hol (.int IntKind.i64), .hol (.int IntKind.i64), .hol .bool], some [.onl 5 (Ty.int IntKind.u8) 514, .hol (.int IntKind.i64)]]⟩, [(.exit 0, ⟨[.any, .any, .any, .any, .any, .any, .any, .any, .any, .any, .any, .any, .any, .any, .any, .any, .any, .any, .any, .any, .any, .any, .any, .any, .any, .any, .any, .any], [some [.ptr 1 0, .hol (.int IntKind.i64), .hol (.int IntKind.i64), .hol .bool], some [.onl 5 (Ty.int IntKind.u8) 514, .hol (.int IntKind.i64)]]⟩)]⟩
-- FeNs_5 : loeNs_5.st.den → Tr (DenX loeNs_5.xs) | ((h6, (h7, (h8, ()))), ((h9, (h10, (h11, ()))), ((h12, (h13, ())), ())))
def FeNs_5 (d : loeNs_5.st.den) : Tr (DenX loeNs_5.xs) :=
  .ite (decide (d.1.2.2.1 = 0) && (decide (d.1.2.1 = (d.1.1.length : Int)) && (decide (d.2.2.1.2.1 = 130048) && decide (d.2.2.1.1.length ≤ 130048)))) (.ret (.ret ((), ((), encOutN d.2.1.1 (d.1.1.foldl (fun s x => spN8E x s) (d.2.1.2.1, (d.2.1.2.2.1, d.2.2.1.1))))))) .no
def lpeNs : Lp := lpT [(5, loHd loeNs_5 FeNs_5)]
def stepeNs_5 {R : Type} (h6 : List Int) (h7 : Int) (h8 : Int) (h9 : Int) (h10 : Int) (h11 : Bool) (h12 : List Int) (h13 : Int) (next : List Int → Int → Int → Int → Int → Bool → List Int → Int → Option R) (out : DenX loeNs_5.xs → Option R) : Option R := bif decide (h8 < h7) then bif decide (0 ≤ h8) && decide (h8 < (↑h6.length : Int)) then bif decide (h13 = 130048) && decide (h12.length ≤ 130048) then next (h6) (h7) (IntKind.i64.wrap (h8 + 1)) (h9) ((spPutE (h6.getD h8.toNat 0) 8 (h10, h11, h12)).fst) ((spPutE (h6.getD h8.toNat 0) 8 (h10, h11, h12)).snd.fst) ((spPutE (h6.getD h8.toNat 0) 8 (h10, h11, h12)).snd.snd) (130048) else none else none else out (.ret ((), ((), ((h9, (h10, (h11, ()))), ((h12, (h13, ())), ())))))
def iteNs_5 (n : Nat) (h6 : List Int) (h7 : Int) (h8 : Int) (h9 : Int) (h10 : Int) (h11 : Bool) (h12 : List Int) (h13 : Int) : Option (DenX loeNs_5.xs) := lpN tt hdeNs dr lpeNs 2 Go.Proofs.Tryz.f77 (topL Go.Proofs.Tryz.f77 0) n (loeNs_5.st.mk' ((h6, (h7, (h8, ()))), ((h9, (h10, (h11, ()))), ((h12, (h13, ())), ())))) (decX loeNs_5.xs)
theorem sleNs_5 (n : Nat) (h6 : List Int) (h7 : Int) (h8 : Int) (h9 : Int) (h10 : Int) (h11 : Bool) (h12 : List Int) (h13 : Int) : iteNs_5 (n + 1) h6 h7 h8 h9 h10 h11 h12 h13 = stepeNs_5 h6 h7 h8 h9 h10 h11 h12 h13 (iteNs_5 n) some := by kernel_rfl
theorem loopeNs {xs : List Int} (v : Int) (hl : xs.length ≤ maxLen) : ∀ (k i : Nat) (s : EnS), xs.length < i + k → i ≤ xs.length → s.2.2.length ≤ 130048 →
    iteNs_5 k xs (xs.length : Int) i v s.1 s.2.1 s.2.2 130048 = some (.ret ((), ((), encOutN v ((xs.drop i).foldl (fun s x => spN8E x s) s)))) := by
  intro k
  induction k with
  | zero => intro i s h; omega
  | succ k ih =>
    intro i s h1 h2 h3
    rw [sleNs_5]
    unfold stepeNs_5
    by_cases hi : i < xs.length
    · refine (bif_true (decide_eq_true (show (i : Int) < (xs.length : Int) by omega)) _ _).trans ?_
      refine (bif_true (by simpa using hi) _ _).trans ?_
      simp only [Int.toNat_natCast, getD_lt hi, wrap_succ hi hl]
      have g : (decide ((130048 : Int) = 130048) && decide (s.2.2.length ≤ 130048)) = true := by
        simpa using h3
      refine (bif_true g _ _).trans ?_
      rw [List.drop_eq_getElem_cons hi]
      exact ih (i + 1) (spN8E xs[i] s) (by omega) (by omega) (spN8E_le _ h3)
    · refine (bif_false (by simp; omega) _ _).trans ?_
      rw [List.drop_of_length_le (by omega)]
      rfl
def bodyeNs (a0 : List Int) (a1 : Int) (a2 : Int) (a3 : Bool) (a4 : List Int) (a5 : Int) : Option ioeNs.Res := bif decide (16 < (↑a0.length : Int)) then bif decide (a5 = 130048) && decide (a4.length ≤ 130048) then some (Out.ret ((), ((), a1, (spFail 9 (a2, a3, a4)).fst, (spFail 9 (a2, a3, a4)).snd.fst, ()), ((spFail 9 (a2, a3, a4)).snd.snd, 130048, ()), ())) else none else bif decide (a5 = 130048) && decide (a4.length ≤ 130048) then (FeNs_5 ((a0, ((↑a0.length : Int), (0, ()))), ((a1, ((spPutE (IntKind.i32.wrap (↑a0.length : Int)) 4 (a2, a3, a4)).fst, ((spPutE (IntKind.i32.wrap (↑a0.length : Int)) 4 (a2, a3, a4)).snd.fst, ()))), (((spPutE (IntKind.i32.wrap (↑a0.length : Int)) 4 (a2, a3, a4)).snd.snd, (130048, ())), ())))).run fun y => match y with | .ret ((), ((), (x27, x28, x29, ()), (x30, x31, ()), ())) => (some (Out.ret ((), ((), x27, x28, x29, ()), (x30, x31, ()), ()))) else none
theorem runeNs (a0 : List Int) (a1 : Int) (a2 : Int) (a3 : Bool) (a4 : List Int) (a5 : Int) : Io.run tt hdeNs dr lpeNs ioeNs Go.Proofs.Tryz.f77 (((), a0, (), ()), ((), a1, a2, a3, ()), (a4, a5, ()), ()) = bodyeNs a0 a1 a2 a3 a4 a5 := by kernel_rfl
theorem okeNs : HcOk prog 77 (ioHd ioeNs FeNs) := by
  refine fn_sound (n := 400) hm (cs := cseNs) (.cons okeFail (.cons okeI32 (.cons okeI64 .nil))) (lp := lpeNs) (fn := Go.Proofs.Tryz.f77) (by kernel_rfl) (by kernel_rfl) (by kernel_rfl) ioeNs (.step (h0 := loHd loeNs_5 FeNs_5) (by kernel_rfl) (loop_sound (n := 400) hm (cs := cseNs) (.cons okeFail (.cons okeI32 (.cons okeI64 .nil))) (lp := lpeNs) (fn := Go.Proofs.Tryz.f77) (.done (by kernel_rfl)) loeNs_5 FeNs_5 ?_) (.done (by kernel_rfl))) FeNs ?_
  · rintro ⟨⟨(xs : List Int), (n : Int), (i : Int), ⟨⟩⟩, ⟨⟨(v : Int), (e : Int), (f : Bool), ⟨⟩⟩, ⟨(b : List Int), (m : Int), ⟨⟩⟩, ⟨⟩⟩⟩ y hw hy
    obtain ⟨hg, hy⟩ := Tr.guard hy
    simp only [Bool.and_eq_true, decide_eq_true_eq] at hg
    obtain ⟨rfl, rfl, rfl, h4⟩ := hg
    have h4 : b.length ≤ 130048 := h4
    have hl : xs.length ≤ maxLen := hw.1.1.1
    refine ⟨xs.length + 1, (loopeNs v hl (xs.length + 1) 0 (e, (f, b)) (by omega) (by omega) h4).trans ?_⟩
    rw [← hy]; rfl
  · rintro ⟨⟨⟨⟩, (xs : List Int), ⟨⟩, ⟨⟩⟩, ⟨⟨⟩, (v : Int), (e : Int), (f : Bool), ⟨⟩⟩, ⟨(b : List Int), (m : Int), ⟨⟩⟩, ⟨⟩⟩ out hw ho
    obtain ⟨hg, ho⟩ := Tr.guard ho
    obtain ⟨rfl, hb⟩ := encOk_iff (v := v) (e := e) (f := f) hg
    cases ho
    refine (runeNs xs v e f b 130048).trans ?_
    unfold bodyeNs
    have g : (decide ((130048 : Int) = 130048) && decide (b.length ≤ 130048)) = true := by simpa using hb
    show _ = some (Out.ret ((), encOut v (spItems (spN8E) xs (e, f, b))))
    unfold spItems
    by_cases h : 16 < (xs.length : Int)
    · rw [if_pos h]
      refine (bif_true (decide_eq_true h) _ _).trans ?_
      exact bif_true g _ _
    · rw [if_neg h]
      refine (bif_false (decide_eq_false h) _ _).trans ?_
      refine (bif_true g _ _).trans ?_
      have hw32 : IntKind.i32.wrap (xs.length : Int) = xs.length := wrap_id (by simp [inR, IntKind.min, IntKind.max, IntKind.signed, IntKind.bits]; omega)
      rw [hw32]
      have c1 : (decide ((0 : Int) = 0) && (decide ((xs.length : Int) = (xs.length : Int)) && (decide ((130048 : Int) = 130048) && decide ((spPutE xs.length 4 (e, f, b)).2.2.length ≤ 130048)))) = true := by
        simpa using spPutE_le (s := (e, f, b)) _ 4 hb
      have e1 : FeNs_5 ((xs, ((xs.length : Int), (0, ()))), ((v, ((spPutE xs.length 4 (e, f, b)).1, ((spPutE xs.length 4 (e, f, b)).2.1, ()))), (((spPutE xs.length 4 (e, f, b)).2.2, (130048, ())), ()))) =
          .ite true (.ret (.ret ((), ((), encOutN v (xs.foldl (fun s x => spN8E x s) (spPutE xs.length 4 (e, f, b))))))) .no := congrArg (fun c => Tr.ite c _ _) c1
      rw [e1]
      rfl
abbrev iodNs : Io := ⟨[.ptr 0 0, .fnc 89 true [0]], oDec, [], [.dat (.sl 2 (.int .i64)) false false], none⟩
def FdNs (d : iodNs.In) : Tr iodNs.Res := .ite (spDok d.2.2.1.1 d.2.2.1.2.1) (.ret (.ret (((spNsD d.2.2.1.1 (decSt d.2)).1, ()), decOut d.2.1.2.1 d.2.2.1.1 (spNsD d.2.2.1.1 (decSt d.2)).2))) .no
abbrev csdNs : List (Nat × Hc) := [(81, ioHd iodI32 FdI32), (89, ioHd iodI64 FdI64)]
def hddNs : Hd := hdT csdNs
abbrev lodNs_10 : Lo := ⟨⟨[.one (.ptr 0 0), .one (.fnp 89 true [0]), .any, .any, .any, .one (.hol (.int IntKind.i32)), .one (.onl 2 (Ty.int IntKind.i64) 17), .one (.hol (.int IntKind.i32)), .any, .any, .any, .any, .any, .any, .any, .any, .any, .any, .any, .any, .any, .any, .any, .any, .any, .any, .any, .any, .any, .any, .any, .any, .any, .any, .any, .any, .any, .any, .any, .any, .any, .any, .any, .any, .any, .any], [some [.ptr 1 0, .hol (.int IntKind.i64), .hol (.int IntKind.i64)], some [.hol (.sl 5 (Ty.int IntKind.u8)), .hol (.int IntKind.i64)]]⟩, [(.exit 1, ⟨[.any, .any, .any, .any, .any, .any, .one (.onl 2 (Ty.int IntKind.i64) 17), .any, .any, .any, .any, .any, .any, .any, .any, .any, .any, .any, .any, .any, .any, .any, .any, .any, .any, .any, .any, .any, .any, .any, .any, .any, .any, .any, .any, .any, .any, .any, .any, .any, .any, .any, .any, .any, .any, .any], [some [.ptr 1 0, .hol (.int IntKind.i64), .hol (.int IntKind.i64)], some [.hol (.sl 5 (Ty.int IntKind.u8)), .hol (.int IntKind.i64)]]⟩)]⟩
-- FdNs_10 : lodNs_10.st.den → Tr (DenX lodNs_10.xs) | ((h4, (h5, (h6, ()))), ((h7, (h8, ())), ((h9, (h10, ())), ())))
def FdNs_10 (d : lodNs_10.st.den) : Tr (DenX lodNs_10.xs) :=
  .ite (decide (d.1.2.2.1 = 0) && (decide (d.1.2.1.length = 0) && (spDok d.2.2.1.1 d.2.2.1.2.1 && (decide (d.1.1 ≤ (16 : Int)) || decide (d.2.1.2.1 ≠ 0))))) (.ret (.ret ((), (((spRep (spDn .i64 8 d.2.2.1.1) d.1.1.toNat (d.2.1.2.1, d.2.2.1.2.1)).1, ()), decOutN d.2.1.1 d.2.2.1.1 (spRep (spDn .i64 8 d.2.2.1.1) d.1.1.toNat (d.2.1.2.1, d.2.2.1.2.1)).2)))) .no
def lpdNs : Lp := lpT [(10, loHd lodNs_10 FdNs_10)]
def stepdNs_10 {R : Type} (h4 : Int) (h5 : List Int) (h6 : Int) (h7 : Int) (h8 : Int) (h9 : List Int) (h10 : Int) (next : Int → List Int → Int → Int → Int → List Int → Int → Option R) (out : DenX lodNs_10.xs → Option R) : Option R := bif decide (h6 < h4) then bif h8 == 0 then bif spDok h9 h10 then bif decide (h5.length + 1 ≤ 4294967296) then next (h4) (h5 ++ [(spDn IntKind.i64 8 h9 (h8, h10)).fst]) (IntKind.i32.wrap (h6 + 1)) (h7) ((spDn IntKind.i64 8 h9 (h8, h10)).snd.fst) (h9) ((spDn IntKind.i64 8 h9 (h8, h10)).snd.snd) else none else none else out (.ret ((), ((h5, ()), ((h7, (h8, ())), ((h9, (h10, ())), ()))))) else out (.ret ((), ((h5, ()), ((h7, (h8, ())), ((h9, (h10, ())), ())))))
def itdNs_10 (n : Nat) (h4 : Int) (h5 : List Int) (h6 : Int) (h7 : Int) (h8 : Int) (h9 : List Int) (h10 : Int) : Option (DenX lodNs_10.xs) := lpN tt hddNs dr lpdNs 2 Go.Proofs.Tryz.f88 (topL Go.Proofs.Tryz.f88 0) n (lodNs_10.st.mk' ((h4, (h5, (h6, ()))), ((h7, (h8, ())), ((h9, (h10, ())), ())))) (decX lodNs_10.xs)
theorem sldNs_10 (n : Nat) (h4 : Int) (h5 : List Int) (h6 : Int) (h7 : Int) (h8 : Int) (h9 : List Int) (h10 : Int) : itdNs_10 (n + 1) h4 h5 h6 h7 h8 h9 h10 = stepdNs_10 h4 h5 h6 h7 h8 h9 h10 (itdNs_10 n) some := by kernel_rfl
theorem loopdNs (n v : Int) (b : List Int) : ∀ (k j : Nat) (xs : List Int) (s : DeS), n.toNat < j + k → j ≤ n.toNat → xs.length = j → spDok b s.2 = true → (s.1 = 0 → n ≤ 16) →
    itdNs_10 k n xs j v s.1 b s.2 = some (.ret ((), ((xs ++ (spRep (spDn .i64 8 b) (n.toNat - j) s).1, ()), decOutN v b (spRep (spDn .i64 8 b) (n.toNat - j) s).2))) := by
  intro k
  induction k with
  | zero => intro j xs s h; omega
  | succ k ih =>
    intro j xs s h1 h2 h3 h4 h5
    rw [sldNs_10]
    unfold stepdNs_10
    by_cases hj : (j : Int) < n
    · refine (bif_true (by simpa using hj) _ _).trans ?_
      obtain ⟨m, hm⟩ : ∃ m, n.toNat - j = m + 1 := ⟨n.toNat - j - 1, by omega⟩
      rw [hm]
      by_cases he : s.1 = 0
      · refine (bif_true (by simpa using he) _ _).trans ?_
        have hn := h5 he
        refine (bif_true h4 _ _).trans ?_
        refine (bif_true (decide_eq_true (show xs.length + 1 ≤ 4294967296 by omega)) _ _).trans ?_
        have hw : IntKind.i32.wrap ((j : Int) + 1) = ((j + 1 : Nat) : Int) := wrap_id (by simp [inR, IntKind.min, IntKind.max, IntKind.signed, IntKind.bits]; omega)
        rw [hw]
        refine (ih (j + 1) (xs ++ [(spDn .i64 8 b s).1]) (spDn .i64 8 b s).2 (by omega) (by omega) (by simp [h3]) (spDn_ok .i64 8 h4) (fun _ => hn)).trans ?_
        rw [show n.toNat - (j + 1) = m by omega, spRep, if_pos he]
        simp
      · refine (bif_false (by simpa using he) _ _).trans ?_
        rw [spRep, if_neg he]
        simp
    · refine (bif_false (by simpa using hj) _ _).trans ?_
      rw [show n.toNat - j = 0 by omega, spRep]
      simp
def bodydNs (a0 : Int) (a1 : Int) (a2 : List Int) (a3 : Int) : Option iodNs.Res := bif spDok a2 a3 then bif (spDn IntKind.i32 4 a2 (a1, a3)).snd.fst != 0 then (FdNs_10 (((spDn IntKind.i32 4 a2 (a1, a3)).fst, ([], (0, ()))), ((a0, ((spDn IntKind.i32 4 a2 (a1, a3)).snd.fst, ())), ((a2, ((spDn IntKind.i32 4 a2 (a1, a3)).snd.snd, ())), ())))).run fun y => match y with | .ret ((), ((x28, ()), (x29, x30, ()), (x31, x32, ()), ())) => (some (Out.ret ((x28, ()), ((), x29, x30, ()), (x31, x32, ()), ()))) else bif decide ((spDn IntKind.i32 4 a2 (a1, a3)).fst < 0) then (FdNs_10 (((spDn IntKind.i32 4 a2 (a1, a3)).fst, ([], (0, ()))), ((a0, (5, ())), ((a2, ((spDn IntKind.i32 4 a2 (a1, a3)).snd.snd, ())), ())))).run fun y => match y with | .ret ((), ((x40, ()), (x41, x42, ()), (x43, x44, ()), ())) => (some (Out.ret ((x40, ()), ((), x41, x42, ()), (x43, x44, ()), ()))) else bif decide (16 < (spDn IntKind.i32 4 a2 (a1, a3)).fst) then (FdNs_10 (((spDn IntKind.i32 4 a2 (a1, a3)).fst, ([], (0, ()))), ((a0, (9, ())), ((a2, ((spDn IntKind.i32 4 a2 (a1, a3)).snd.snd, ())), ())))).run fun y => match y with | .ret ((), ((x52, ()), (x53, x54, ()), (x55, x56, ()), ())) => (some (Out.ret ((x52, ()), ((), x53, x54, ()), (x55, x56, ()), ()))) else (FdNs_10 (((spDn IntKind.i32 4 a2 (a1, a3)).fst, ([], (0, ()))), ((a0, ((spDn IntKind.i32 4 a2 (a1, a3)).snd.fst, ())), ((a2, ((spDn IntKind.i32 4 a2 (a1, a3)).snd.snd, ())), ())))).run fun y => match y with | .ret ((), ((x64, ()), (x65, x66, ()), (x67, x68, ()), ())) => (some (Out.ret ((x64, ()), ((), x65, x66, ()), (x67, x68, ()), ()))) else none
theorem rundNs (a0 : Int) (a1 : Int) (a2 : List Int) (a3 : Int) : Io.run tt hddNs dr lpdNs iodNs Go.Proofs.Tryz.f88 (((), (), ()), ((), a0, a1, ()), (a2, a3, ()), ()) = bodydNs a0 a1 a2 a3 := by kernel_rfl
theorem okdNs : HcOk prog 88 (ioHd iodNs FdNs) := by
  refine fn_sound (n := 400) hm (cs := csdNs) (.cons okdI32 (.cons okdI64 .nil)) (lp := lpdNs) (fn := Go.Proofs.Tryz.f88) (by kernel_rfl) (by kernel_rfl) (by kernel_rfl) iodNs (.step (h0 := loHd lodNs_10 FdNs_10) (by kernel_rfl) (loop_sound (n := 400) hm (cs := csdNs) (.cons okdI32 (.cons okdI64 .nil)) (lp := lpdNs) (fn := Go.Proofs.Tryz.f88) (.done (by kernel_rfl)) lodNs_10 FdNs_10 ?_) (.done (by kernel_rfl))) FdNs ?_
  · rintro ⟨⟨(n : Int), (xs : List Int), (i : Int), ⟨⟩⟩, ⟨⟨(v : Int), (e : Int), ⟨⟩⟩, ⟨(b : List Int), (p : Int), ⟨⟩⟩, ⟨⟩⟩⟩ y hw hy
    obtain ⟨hg, hy⟩ := Tr.guard hy
    simp only [Bool.and_eq_true, decide_eq_true_eq, Bool.or_eq_true] at hg
    obtain ⟨h1, h2, h3, h4⟩ := hg
    have h1 : i = 0 := h1
    have h2 : xs = [] := List.eq_nil_of_length_eq_zero h2
    have h3 : spDok b p = true := h3
    have h4 : n ≤ 16 ∨ e ≠ 0 := h4
    subst h1
    subst h2
    refine ⟨n.toNat + 1, (loopdNs n v b (n.toNat + 1) 0 [] (e, p) (by omega) (by omega) rfl h3 (fun he => h4.resolve_right (fun h => h he))).trans ?_⟩
    rw [← hy]; rfl
  · rintro ⟨⟨⟨⟩, ⟨⟩, ⟨⟩⟩, ⟨⟨⟩, (v : Int), (e : Int), ⟨⟩⟩, ⟨(b : List Int), (p : Int), ⟨⟩⟩, ⟨⟩⟩ out hw ho
    obtain ⟨hg, ho⟩ := Tr.guard ho
    have hg : spDok b p = true := hg
    cases ho
    refine (rundNs v e b p).trans ?_
    unfold bodydNs
    show _ = some (Out.ret (((spNsD b (e, p)).1, ()), decOut v b (spNsD b (e, p)).2))
    unfold spNsD spList
    refine (bif_true hg _ _).trans ?_
    have hr : spDok b (spDn .i32 4 b (e, p)).2.2 = true := spDn_ok .i32 4 (s := (e, p)) hg
    generalize spDn .i32 4 b (e, p) = r at hr ⊢
    obtain ⟨n, e1, q⟩ := r
    have hr : spDok b q = true := hr
    have key : ∀ e' : Int, (e' = 0 → n ≤ 16) → FdNs_10 ((n, ([], (0, ()))), ((v, (e', ())), ((b, (q, ())), ()))) = .ite true (.ret (.ret ((), (((spRep (spDn .i64 8 b) n.toNat (e', q)).1, ()), decOutN v b (spRep (spDn .i64 8 b) n.toNat (e', q)).2)))) .no := by
      intro e' he
      refine congrArg (fun c => Tr.ite c _ _) ?_
      show (decide ((0 : Int) = 0) && (decide (([] : List Int).length = 0) && (spDok b q && (decide (n ≤ 16) || decide (e' ≠ 0))))) = true
      rw [hr]
      by_cases h : e' = 0
      · simp [he h]
      · simp [h]
    unfold spLen
    show (bif e1 != 0 then _ else _) = _
    by_cases h1 : e1 = 0
    · refine (bif_false (by simpa using h1) _ _).trans ?_
      show (bif decide (n < 0) then _ else _) = _
      rw [if_pos h1]
      by_cases h2 : n < 0
      · refine (bif_true (by simpa using h2) _ _).trans ?_
        show (FdNs_10 ((n, ([], (0, ()))), ((v, (5, ())), ((b, (q, ())), ())))).run _ = _
        rw [key 5 (by omega), if_pos h2]
        rfl
      · refine (bif_false (by simpa using h2) _ _).trans ?_
        show (bif decide (16 < n) then _ else _) = _
        rw [if_neg h2]
        by_cases h3 : 16 < n
        · refine (bif_true (by simpa using h3) _ _).trans ?_
          show (FdNs_10 ((n, ([], (0, ()))), ((v, (9, ())), ((b, (q, ())), ())))).run _ = _
          rw [key 9 (by omega), if_pos h3]
          rfl
        · refine (bif_false (by simpa using h3) _ _).trans ?_
          show (FdNs_10 ((n, ([], (0, ()))), ((v, (e1, ())), ((b, (q, ())), ())))).run _ = _
          rw [key e1 (by omega), if_neg h3]
          rfl
    · refine (bif_true (by simpa using h1) _ _).trans ?_
      show (FdNs_10 ((n, ([], (0, ()))), ((v, (e1, ())), ((b, (q, ())), ())))).run _ = _
      rw [key e1 (fun h => absurd h h1), if_neg h1]
      rfl
end
end Go.Proofs.YtjpeefegeobgfaaGreat.Sym
namespace Go.Proofs.YtjpeefegeobgfaaGreat.Sym
open Go
set_option linter.unusedSimpArgs false
set_option linter.unusedVariables false
noncomputable section
abbrev torPart : Ty := .prod (.int .i32) (.prod (.int .i16) (.prod (.sl 2 (.int .i64)) (.prod (.int .i64) (.prod (.int .i64) (.prod (.int .i32) .unit)))))
abbrev torTopic : Ty := .prod .str (.prod (.sl 57 torPart) .unit)
abbrev torMsg : Ty := .prod (.int .i32) (.prod (.sl 53 torTopic) .unit)
def sporPE (v : Int) (p : torPart.den) (s : EnS) : EnS := spHasE v 3 3 p.2.2.2.2.2.1 4 (spHasE v 1 3 p.2.2.2.2.1 8 (spHasE v 1 3 p.2.2.2.1 8 (spHasNs v 0 0 p.2.2.1 (spPutE p.2.1 2 (spPutE p.1 4 (s))))))
theorem sporPE_le {s : EnS} (v : Int) (p : torPart.den) (h : s.2.2.length ≤ 130048) : (sporPE v p s).2.2.length ≤ 130048 :=
  spHasE_le _ _ _ _ _ (spHasE_le _ _ _ _ _ (spHasE_le _ _ _ _ _ (spHasNs_le _ _ _ _ (spPutE_le _ _ (spPutE_le _ _ (h))))))
abbrev ioorPart : Io := ⟨[.dat torPart true false, .ptr 0 0], oEnc1, [], [], none⟩
def ForPart (d : ioorPart.In) : Tr ioorPart.Res := .ite (encOk d.2.2) (.ret (.ret ((), encOut1 d.2.2.1.2.1 (sporPE d.2.2.1.2.1 d.1.1 (encSt d.2.2))))) .no
abbrev csorPart : List (Nat × Hc) := [(76, ioHd ioeI16 FeI16), (56, ioHd ioeI32 FeI32), (64, ioHd ioeI64 FeI64), (77, ioHd ioeNs FeNs), (57, ioHd ioeHas FeHas)]
def hdorPart : Hd := hdT csorPart
def lporPart : Lp := lpT []
def bodyorPart (a0 : Int) (a1 : Int) (a2 : List Int) (a3 : Int) (a4 : Int) (a5 : Int) (a6 : Int) (a7 : Int) (a8 : Bool) (a9 : List Int) (a10 : Int) : Option ioorPart.Res := bif decide (a10 = 130048) && decide (a9.length ≤ 130048) then bif decide (130048 = 130048) && decide ((spPutE a0 4 (a7, a8, a9)).snd.snd.length ≤ 130048) then bif decide (130048 = 130048) && decide ((spPutE a1 2 (spPutE a0 4 (a7, a8, a9))).snd.snd.length ≤ 130048) then bif decide (0 ≤ a6) && decide (a6 ≤ 0) then bif decide (130048 = 130048) && decide ((spPutE a1 2 (spPutE a0 4 (a7, a8, a9))).snd.snd.length ≤ 130048) then bif decide (130048 = 130048) && decide ((spNsE a2 (spPutE a1 2 (spPutE a0 4 (a7, a8, a9)))).snd.snd.length ≤ 130048) then bif decide (1 ≤ a6) && decide (a6 ≤ 3) then bif decide (130048 = 130048) && decide ((spNsE a2 (spPutE a1 2 (spPutE a0 4 (a7, a8, a9)))).snd.snd.length ≤ 130048) then bif decide (130048 = 130048) && decide ((spPutE a3 8 (spNsE a2 (spPutE a1 2 (spPutE a0 4 (a7, a8, a9))))).snd.snd.length ≤ 130048) then bif decide (130048 = 130048) && decide ((spPutE a4 8 (spPutE a3 8 (spNsE a2 (spPutE a1 2 (spPutE a0 4 (a7, a8, a9)))))).snd.snd.length ≤ 130048) then bif decide (3 ≤ a6) && decide (a6 ≤ 3) then bif decide (130048 = 130048) && decide ((spPutE a4 8 (spPutE a3 8 (spNsE a2 (spPutE a1 2 (spPutE a0 4 (a7, a8, a9)))))).snd.snd.length ≤ 130048) then some (Out.ret ((), ((), ()), ((), a6, (spPutE a5 4 (spPutE a4 8 (spPutE a3 8 (spNsE a2 (spPutE a1 2 (spPutE a0 4 (a7, a8, a9))))))).fst, (spPutE a5 4 (spPutE a4 8 (spPutE a3 8 (spNsE a2 (spPutE a1 2 (spPutE a0 4 (a7, a8, a9))))))).snd.fst, ()), ((spPutE a5 4 (spPutE a4 8 (spPutE a3 8 (spNsE a2 (spPutE a1 2 (spPutE a0 4 (a7, a8, a9))))))).snd.snd, 130048, ()), ())) else none else some (Out.ret ((), ((), ()), ((), a6, (spPutE a4 8 (spPutE a3 8 (spNsE a2 (spPutE a1 2 (spPutE a0 4 (a7, a8, a9)))))).fst, (spPutE a4 8 (spPutE a3 8 (spNsE a2 (spPutE a1 2 (spPutE a0 4 (a7, a8, a9)))))).snd.fst, ()), ((spPutE a4 8 (spPutE a3 8 (spNsE a2 (spPutE a1 2 (spPutE a0 4 (a7, a8, a9)))))).snd.snd, 130048, ()), ())) else none else none else none else bif decide (130048 = 130048) && decide ((spNsE a2 (spPutE a1 2 (spPutE a0 4 (a7, a8, a9)))).snd.snd.length ≤ 130048) then bif decide (3 ≤ a6) && decide (a6 ≤ 3) then bif decide (130048 = 130048) && decide ((spNsE a2 (spPutE a1 2 (spPutE a0 4 (a7, a8, a9)))).snd.snd.length ≤ 130048) then some (Out.ret ((), ((), ()), ((), a6, (spPutE a5 4 (spNsE a2 (spPutE a1 2 (spPutE a0 4 (a7, a8, a9))))).fst, (spPutE a5 4 (spNsE a2 (spPutE a1 2 (spPutE a0 4 (a7, a8, a9))))).snd.fst, ()), ((spPutE a5 4 (spNsE a2 (spPutE a1 2 (spPutE a0 4 (a7, a8, a9))))).snd.snd, 130048, ()), ())) else none else some (Out.ret ((), ((), ()), ((), a6, (spNsE a2 (spPutE a1 2 (spPutE a0 4 (a7, a8, a9)))).fst, (spNsE a2 (spPutE a1 2 (spPutE a0 4 (a7, a8, a9)))).snd.fst, ()), ((spNsE a2 (spPutE a1 2 (spPutE a0 4 (a7, a8, a9)))).snd.snd, 130048, ()), ())) else none else none else none else bif decide (130048 = 130048) && decide ((spPutE a1 2 (spPutE a0 4 (a7, a8, a9))).snd.snd.length ≤ 130048) then bif decide (1 ≤ a6) && decide (a6 ≤ 3) then bif decide (130048 = 130048) && decide ((spPutE a1 2 (spPutE a0 4 (a7, a8, a9))).snd.snd.length ≤ 130048) then bif decide (130048 = 130048) && decide ((spPutE a3 8 (spPutE a1 2 (spPutE a0 4 (a7, a8, a9)))).snd.snd.length ≤ 130048) then bif decide (130048 = 130048) && decide ((spPutE a4 8 (spPutE a3 8 (spPutE a1 2 (spPutE a0 4 (a7, a8, a9))))).snd.snd.length ≤ 130048) then bif decide (3 ≤ a6) && decide (a6 ≤ 3) then bif decide (130048 = 130048) && decide ((spPutE a4 8 (spPutE a3 8 (spPutE a1 2 (spPutE a0 4 (a7, a8, a9))))).snd.snd.length ≤ 130048) then some (Out.ret ((), ((), ()), ((), a6, (spPutE a5 4 (spPutE a4 8 (spPutE a3 8 (spPutE a1 2 (spPutE a0 4 (a7, a8, a9)))))).fst, (spPutE a5 4 (spPutE a4 8 (spPutE a3 8 (spPutE a1 2 (spPutE a0 4 (a7, a8, a9)))))).snd.fst, ()), ((spPutE a5 4 (spPutE a4 8 (spPutE a3 8 (spPutE a1 2 (spPutE a0 4 (a7, a8, a9)))))).snd.snd, 130048, ()), ())) else none else some (Out.ret ((), ((), ()), ((), a6, (spPutE a4 8 (spPutE a3 8 (spPutE a1 2 (spPutE a0 4 (a7, a8, a9))))).fst, (spPutE a4 8 (spPutE a3 8 (spPutE a1 2 (spPutE a0 4 (a7, a8, a9))))).snd.fst, ()), ((spPutE a4 8 (spPutE a3 8 (spPutE a1 2 (spPutE a0 4 (a7, a8, a9))))).snd.snd, 130048, ()), ())) else none else none else none else bif decide (130048 = 130048) && decide ((spPutE a1 2 (spPutE a0 4 (a7, a8, a9))).snd.snd.length ≤ 130048) then bif decide (3 ≤ a6) && decide (a6 ≤ 3) then bif decide (130048 = 130048) && decide ((spPutE a1 2 (spPutE a0 4 (a7, a8, a9))).snd.snd.length ≤ 130048) then some (Out.ret ((), ((), ()), ((), a6, (spPutE a5 4 (spPutE a1 2 (spPutE a0 4 (a7, a8, a9)))).fst, (spPutE a5 4 (spPutE a1 2 (spPutE a0 4 (a7, a8, a9)))).snd.fst, ()), ((spPutE a5 4 (spPutE a1 2 (spPutE a0 4 (a7, a8, a9)))).snd.snd, 130048, ()), ())) else none else some (Out.ret ((), ((), ()), ((), a6, (spPutE a1 2 (spPutE a0 4 (a7, a8, a9))).fst, (spPutE a1 2 (spPutE a0 4 (a7, a8, a9))).snd.fst, ()), ((spPutE a1 2 (spPutE a0 4 (a7, a8, a9))).snd.snd, 130048, ()), ())) else none else none else none else none else none
theorem runorPart (a0 : Int) (a1 : Int) (a2 : List Int) (a3 : Int) (a4 : Int) (a5 : Int) (a6 : Int) (a7 : Int) (a8 : Bool) (a9 : List Int) (a10 : Int) : Io.run tt hdorPart dr lporPart ioorPart Go.Proofs.Tryz.f75 (((a0, a1, a2, a3, a4, a5, ()), (), ()), ((), ()), ((), a6, a7, a8, ()), (a9, a10, ()), ()) = bodyorPart a0 a1 a2 a3 a4 a5 a6 a7 a8 a9 a10 := by kernel_rfl
theorem okorPart : HcOk prog 75 (ioHd ioorPart ForPart) := by
  refine fn_sound (n := 400) hm (cs := csorPart) (.cons okeI16 (.cons okeI32 (.cons okeI64 (.cons okeNs (.cons okeHas .nil))))) (lp := lporPart) (fn := Go.Proofs.Tryz.f75) (by kernel_rfl) (by kernel_rfl) (by kernel_rfl) ioorPart (.done (by kernel_rfl)) ForPart ?_
  rintro ⟨⟨⟨(ix : Int), (cd : Int), (of : List Int), (ti : Int), (fo : Int), (ep : Int), ⟨⟩⟩, ⟨⟩, ⟨⟩⟩, ⟨⟨⟩, ⟨⟩⟩, ⟨⟨⟩, (v : Int), (e : Int), (f : Bool), ⟨⟩⟩, ⟨(b : List Int), (m : Int), ⟨⟩⟩, ⟨⟩⟩ out hw ho
  obtain ⟨hg, ho⟩ := Tr.guard ho
  obtain ⟨rfl, hb⟩ := encOk_iff (v := v) (e := e) (f := f) hg
  cases ho
  refine (runorPart ix cd of ti fo ep v e f b 130048).trans ?_
  unfold bodyorPart
  have hg : ∀ s : EnS, s.2.2.length ≤ 130048 → (decide ((130048 : Int) = 130048) && decide (s.2.2.length ≤ 130048)) = true := fun s h => by simpa using h
  have hb : (e, (f, b)).2.2.length ≤ 130048 := hb
  show _ = some (Out.ret ((), encOut1 v (sporPE v (ix, (cd, (of, (ti, (fo, (ep, ())))))) (e, f, b))))
  refine (bif_true (hg _ hb) _ _).trans ?_
  have l0_1 := spPutE_le ix 4 hb
  refine (bif_true (hg _ l0_1) _ _).trans ?_
  have l1_1 := spPutE_le cd 2 l0_1
  refine (bif_true (hg _ l1_1) _ _).trans ?_
  by_cases h2_1 : 0 ≤ v ∧ v ≤ 0
  · refine (bif_true (by simpa using h2_1) _ _).trans ?_
    refine (bif_true (hg _ l1_1) _ _).trans ?_
    have l2_1 := spNsE_le of l1_1
    refine (bif_true (hg _ l2_1) _ _).trans ?_
    by_cases h3_2 : 1 ≤ v ∧ v ≤ 3
    · refine (bif_true (by simpa using h3_2) _ _).trans ?_
      refine (bif_true (hg _ l2_1) _ _).trans ?_
      have l3_2 := spPutE_le ti 8 l2_1
      refine (bif_true (hg _ l3_2) _ _).trans ?_
      have l4_3 := spPutE_le fo 8 l3_2
      refine (bif_true (hg _ l4_3) _ _).trans ?_
      by_cases h5_3 : 3 ≤ v ∧ v ≤ 3
      · refine (bif_true (by simpa using h5_3) _ _).trans ?_
        refine (bif_true (hg _ l4_3) _ _).trans ?_
        have l5_3 := spPutE_le ep 4 l4_3
        simp only [sporPE, spHasNs_in h2_1, spHasE_in h3_2, spHasE_in h3_2, spHasE_in h5_3]
      · refine (bif_false (Bool.eq_false_iff.2 fun h' => h5_3 (by simpa using h')) _ _).trans ?_
        simp only [sporPE, spHasNs_in h2_1, spHasE_in h3_2, spHasE_in h3_2, spHasE_out h5_3]
    · refine (bif_false (Bool.eq_false_iff.2 fun h' => h3_2 (by simpa using h')) _ _).trans ?_
      refine (bif_true (hg _ l2_1) _ _).trans ?_
      by_cases h5_3 : 3 ≤ v ∧ v ≤ 3
      · refine (bif_true (by simpa using h5_3) _ _).trans ?_
        refine (bif_true (hg _ l2_1) _ _).trans ?_
        have l5_3 := spPutE_le ep 4 l2_1
        simp only [sporPE, spHasNs_in h2_1, spHasE_out h3_2, spHasE_out h3_2, spHasE_in h5_3]
      · refine (bif_false (Bool.eq_false_iff.2 fun h' => h5_3 (by simpa using h')) _ _).trans ?_
        simp only [sporPE, spHasNs_in h2_1, spHasE_out h3_2, spHasE_out h3_2, spHasE_out h5_3]
  · refine (bif_false (Bool.eq_false_iff.2 fun h' => h2_1 (by simpa using h')) _ _).trans ?_
    refine (bif_true (hg _ l1_1) _ _).trans ?_
    by_cases h3_2 : 1 ≤ v ∧ v ≤ 3
    · refine (bif_true (by simpa using h3_2) _ _).trans ?_
      refine (bif_true (hg _ l1_1) _ _).trans ?_
      have l3_2 := spPutE_le ti 8 l1_1
      refine (bif_true (hg _ l3_2) _ _).trans ?_
      have l4_3 := spPutE_le fo 8 l3_2
      refine (bif_true (hg _ l4_3) _ _).trans ?_
      by_cases h5_3 : 3 ≤ v ∧ v ≤ 3
      · refine (bif_true (by simpa using h5_3) _ _).trans ?_
        refine (bif_true (hg _ l4_3) _ _).trans ?_
        have l5_3 := spPutE_le ep 4 l4_3
        simp only [sporPE, spHasNs_out h2_1, spHasE_in h3_2, spHasE_in h3_2, spHasE_in h5_3]
      · refine (bif_false (Bool.eq_false_iff.2 fun h' => h5_3 (by simpa using h')) _ _).trans ?_
        simp only [sporPE, spHasNs_out h2_1, spHasE_in h3_2, spHasE_in h3_2, spHasE_out h5_3]
    · refine (bif_false (Bool.eq_false_iff.2 fun h' => h3_2 (by simpa using h')) _ _).trans ?_
      refine (bif_true (hg _ l1_1) _ _).trans ?_
      by_cases h5_3 : 3 ≤ v ∧ v ≤ 3
      · refine (bif_true (by simpa using h5_3) _ _).trans ?_
        refine (bif_true (hg _ l1_1) _ _).trans ?_
        have l5_3 := spPutE_le ep 4 l1_1
        simp only [sporPE, spHasNs_out h2_1, spHasE_out h3_2, spHasE_out h3_2, spHasE_in h5_3]
      · refine (bif_false (Bool.eq_false_iff.2 fun h' => h5_3 (by simpa using h')) _ _).trans ?_
        simp only [sporPE, spHasNs_out h2_1, spHasE_out h3_2, spHasE_out h3_2, spHasE_out h5_3]
def sporPsE (v : Int) (xs : List torPart.den) (s : EnS) : EnS := spItems (sporPE v) xs s
abbrev ioorParts : Io := ⟨[.ptr 0 0, .dat (.sl 57 torPart) false false, .fnc 75 false [2]], oEncC, [], [], none⟩
def ForParts (d : ioorParts.In) : Tr ioorParts.Res := .ite (encOkC d.2) (.ret (.ret ((), encOutC d.2.1.2.1 (sporPsE d.2.1.2.1 d.1.2.1 (encStC d.2))))) .no
abbrev csorParts : List (Nat × Hc) := [(137, ioHd ioeFail FeFail), (56, ioHd ioeI32 FeI32), (75, ioHd ioorPart ForPart)]
def hdorParts : Hd := hdT csorParts
abbrev loorParts_5 : Lo := ⟨⟨[.any, .any, .one (.fnp 75 false [2]), .any, .any, .any, .any, .any, .any, .any, .any, .any, .any, .any, .any, .any, .any, .any, .one (.hol (.sl 57 torPart)), .one (.hol (.int IntKind.i64)), .one (.hol (.int IntKind.i64)), .any, .any, .any, .any, .any, .any, .any], [some [.ptr 1 0, .hol (.int IntKind.i64), .hol (.int IntKind.i64), .hol .bool], some [.onl 5 (Ty.int IntKind.u8) 514, .hol (.int IntKind.i64)], some [.ptr 0 0]]⟩, [(.exit 0, ⟨[.any, .any, .any, .any, .any, .any, .any, .any, .any, .any, .any, .any, .any, .any, .any, .any, .any, .any, .any, .any, .any, .any, .any, .any, .any, .any, .any, .any], [some [.ptr 1 0, .hol (.int IntKind.i64), .hol (.int IntKind.i64), .hol .bool], some [.onl 5 (Ty.int IntKind.u8) 514, .hol (.int IntKind.i64)], some [.ptr 0 0]]⟩)]⟩
-- ForParts_5 : loorParts_5.st.den → Tr (DenX loorParts_5.xs) | ((h6, (h7, (h8, ()))), ((h9, (h10, (h11, ()))), ((h12, (h13, ())), ((), ()))))
def ForParts_5 (d : loorParts_5.st.den) : Tr (DenX loorParts_5.xs) :=
  .ite (decide (d.1.2.2.1 = 0) && (decide (d.1.2.1 = (d.1.1.length : Int)) && (decide (d.2.2.1.2.1 = 130048) && decide (d.2.2.1.1.length ≤ 130048)))) (.ret (.ret ((), ((), encOutB d.2.1.1 (d.1.1.foldl (fun s x => sporPE d.2.1.1 x s) (d.2.1.2.1, (d.2.1.2.2.1, d.2.2.1.1))))))) .no
def lporParts : Lp := lpT [(5, loHd loorParts_5 ForParts_5)]
def steporParts_5 {R : Type} (h6 : List torPart.den) (h7 : Int) (h8 : Int) (h9 : Int) (h10 : Int) (h11 : Bool) (h12 : List Int) (h13 : Int) (next : List torPart.den → Int → Int → Int → Int → Bool → List Int → Int → Option R) (out : DenX loorParts_5.xs → Option R) : Option R := bif decide (h8 < h7) then bif decide (0 ≤ h8) && decide (h8 < (↑h6.length : Int)) then bif decide (h13 = 130048) && decide (h12.length ≤ 130048) then next (h6) (h7) (IntKind.i64.wrap (h8 + 1)) (h9) ((sporPE h9 (h6.getD h8.toNat (0, 0, [], 0, 0, 0, ())) (h10, h11, h12)).fst) ((sporPE h9 (h6.getD h8.toNat (0, 0, [], 0, 0, 0, ())) (h10, h11, h12)).snd.fst) ((sporPE h9 (h6.getD h8.toNat (0, 0, [], 0, 0, 0, ())) (h10, h11, h12)).snd.snd) (130048) else none else none else out (.ret ((), ((), ((h9, (h10, (h11, ()))), ((h12, (h13, ())), ((), ()))))))
def itorParts_5 (n : Nat) (h6 : List torPart.den) (h7 : Int) (h8 : Int) (h9 : Int) (h10 : Int) (h11 : Bool) (h12 : List Int) (h13 : Int) : Option (DenX loorParts_5.xs) := lpN tt hdorParts dr lporParts 3 Go.Proofs.Tryz.f74 (topL Go.Proofs.Tryz.f74 0) n (loorParts_5.st.mk' ((h6, (h7, (h8, ()))), ((h9, (h10, (h11, ()))), ((h12, (h13, ())), ((), ()))))) (decX loorParts_5.xs)
theorem slorParts_5 (n : Nat) (h6 : List torPart.den) (h7 : Int) (h8 : Int) (h9 : Int) (h10 : Int) (h11 : Bool) (h12 : List Int) (h13 : Int) : itorParts_5 (n + 1) h6 h7 h8 h9 h10 h11 h12 h13 = steporParts_5 h6 h7 h8 h9 h10 h11 h12 h13 (itorParts_5 n) some := by kernel_rfl
theorem looporParts {xs : List torPart.den} (v : Int) (hl : xs.length ≤ maxLen) : ∀ (k i : Nat) (s : EnS), xs.length < i + k → i ≤ xs.length → s.2.2.length ≤ 130048 →
    itorParts_5 k xs (xs.length : Int) i v s.1 s.2.1 s.2.2 130048 = some (.ret ((), ((), encOutB v ((xs.drop i).foldl (fun s x => sporPE v x s) s)))) := by
  intro k
  induction k with
  | zero => intro i s h; omega
  | succ k ih =>
    intro i s h1 h2 h3
    rw [slorParts_5]
    unfold steporParts_5
    by_cases hi : i < xs.length
    · refine (bif_true (decide_eq_true (show (i : Int) < (xs.length : Int) by omega)) _ _).trans ?_
      refine (bif_true (by simpa using hi) _ _).trans ?_
      simp only [Int.toNat_natCast, getD_lt hi, wrap_succ hi hl]
      have g : (decide ((130048 : Int) = 130048) && decide (s.2.2.length ≤ 130048)) = true := by
        simpa using h3
      refine (bif_true g _ _).trans ?_
      rw [List.drop_eq_getElem_cons hi]
      exact ih (i + 1) (sporPE v xs[i] s) (by omega) (by omega) (sporPE_le v _ h3)
    · refine (bif_false (by simp; omega) _ _).trans ?_
      rw [List.drop_of_length_le (by omega)]
      rfl
def bodyorParts (a0 : List torPart.den) (a1 : Int) (a2 : Int) (a3 : Bool) (a4 : List Int) (a5 : Int) : Option ioorParts.Res := bif decide (16 < (↑a0.length : Int)) then bif decide (a5 = 130048) && decide (a4.length ≤ 130048) then some (Out.ret ((), ((), a1, (spFail 9 (a2, a3, a4)).fst, (spFail 9 (a2, a3, a4)).snd.fst, ()), ((spFail 9 (a2, a3, a4)).snd.snd, 130048, ()), ((), ()), ())) else none else bif decide (a5 = 130048) && decide (a4.length ≤ 130048) then (ForParts_5 ((a0, ((↑a0.length : Int), (0, ()))), ((a1, ((spPutE (IntKind.i32.wrap (↑a0.length : Int)) 4 (a2, a3, a4)).fst, ((spPutE (IntKind.i32.wrap (↑a0.length : Int)) 4 (a2, a3, a4)).snd.fst, ()))), (((spPutE (IntKind.i32.wrap (↑a0.length : Int)) 4 (a2, a3, a4)).snd.snd, (130048, ())), ((), ()))))).run fun y => match y with | .ret ((), ((), (x27, x28, x29, ()), (x30, x31, ()), (), ())) => (some (Out.ret ((), ((), x27, x28, x29, ()), (x30, x31, ()), ((), ()), ()))) else none
theorem runorParts (a0 : List torPart.den) (a1 : Int) (a2 : Int) (a3 : Bool) (a4 : List Int) (a5 : Int) : Io.run tt hdorParts dr lporParts ioorParts Go.Proofs.Tryz.f74 (((), a0, (), ()), ((), a1, a2, a3, ()), (a4, a5, ()), ((), ()), ()) = bodyorParts a0 a1 a2 a3 a4 a5 := by kernel_rfl
theorem okorParts : HcOk prog 74 (ioHd ioorParts ForParts) := by
  refine fn_sound (n := 400) hm (cs := csorParts) (.cons okeFail (.cons okeI32 (.cons okorPart .nil))) (lp := lporParts) (fn := Go.Proofs.Tryz.f74) (by kernel_rfl) (by kernel_rfl) (by kernel_rfl) ioorParts (.step (h0 := loHd loorParts_5 ForParts_5) (by kernel_rfl) (loop_sound (n := 400) hm (cs := csorParts) (.cons okeFail (.cons okeI32 (.cons okorPart .nil))) (lp := lporParts) (fn := Go.Proofs.Tryz.f74) (.done (by kernel_rfl)) loorParts_5 ForParts_5 ?_) (.done (by kernel_rfl))) ForParts ?_
  · rintro ⟨⟨(xs : List torPart.den), (n : Int), (i : Int), ⟨⟩⟩, ⟨⟨(v : Int), (e : Int), (f : Bool), ⟨⟩⟩, ⟨(b : List Int), (m : Int), ⟨⟩⟩, ⟨⟨⟩, ⟨⟩⟩⟩⟩ y hw hy
    obtain ⟨hg, hy⟩ := Tr.guard hy
    simp only [Bool.and_eq_true, decide_eq_true_eq] at hg
    obtain ⟨rfl, rfl, rfl, h4⟩ := hg
    have h4 : b.length ≤ 130048 := h4
    have hl : xs.length ≤ maxLen := hw.1.1.1
    refine ⟨xs.length + 1, (looporParts v hl (xs.length + 1) 0 (e, (f, b)) (by omega) (by omega) h4).trans ?_⟩
    rw [← hy]; rfl
  · rintro ⟨⟨⟨⟩, (xs : List torPart.den), ⟨⟩, ⟨⟩⟩, ⟨⟨⟩, (v : Int), (e : Int), (f : Bool), ⟨⟩⟩, ⟨(b : List Int), (m : Int), ⟨⟩⟩, ⟨⟨⟩, ⟨⟩⟩, ⟨⟩⟩ out hw ho
    obtain ⟨hg, ho⟩ := Tr.guard ho
    obtain ⟨rfl, hb⟩ := encOk_iff (v := v) (e := e) (f := f) hg
    cases ho
    refine (runorParts xs v e f b 130048).trans ?_
    unfold bodyorParts
    have g : (decide ((130048 : Int) = 130048) && decide (b.length ≤ 130048)) = true := by simpa using hb
    show _ = some (Out.ret ((), encOutC v (spItems (sporPE v) xs (e, f, b))))
    unfold spItems
    by_cases h : 16 < (xs.length : Int)
    · rw [if_pos h]
      refine (bif_true (decide_eq_true h) _ _).trans ?_
      exact bif_true g _ _
    · rw [if_neg h]
      refine (bif_false (decide_eq_false h) _ _).trans ?_
      refine (bif_true g _ _).trans ?_
      have hw32 : IntKind.i32.wrap (xs.length : Int) = xs.length := wrap_id (by simp [inR, IntKind.min, IntKind.max, IntKind.signed, IntKind.bits]; omega)
      rw [hw32]
      have c1 : (decide ((0 : Int) = 0) && (decide ((xs.length : Int) = (xs.length : Int)) && (decide ((130048 : Int) = 130048) && decide ((spPutE xs.length 4 (e, f, b)).2.2.length ≤ 130048)))) = true := by
        simpa using spPutE_le (s := (e, f, b)) _ 4 hb
      have e1 : ForParts_5 ((xs, ((xs.length : Int), (0, ()))), ((v, ((spPutE xs.length 4 (e, f, b)).1, ((spPutE xs.length 4 (e, f, b)).2.1, ()))), (((spPutE xs.length 4 (e, f, b)).2.2, (130048, ())), ((), ())))) =
          .ite true (.ret (.ret ((), ((), encOutB v (xs.foldl (fun s x => sporPE v x s) (spPutE xs.length 4 (e, f, b))))))) .no := congrArg (fun c => Tr.ite c _ _) c1
      rw [e1]
      rfl
def sporTE (v : Int) (t : torTopic.den) (s : EnS) : EnS := sporPsE v t.2.1 (spStrE t.1 s)
abbrev ioorTopic : Io := ⟨[.dat torTopic true false, .ptr 0 0], oEnc1, [], [], none⟩
def ForTopic (d : ioorTopic.In) : Tr ioorTopic.Res := .ite (encOk d.2.2) (.ret (.ret ((), encOut1 d.2.2.1.2.1 (sporTE d.2.2.1.2.1 d.1.1 (encSt d.2.2))))) .no
abbrev csorTopic : List (Nat × Hc) := [(61, ioHd ioeStr FeStr), (74, ioHd ioorParts ForParts)]
def hdorTopic : Hd := hdT csorTopic
def lporTopic : Lp := lpT []
def bodyorTopic (a0 : List Int) (a1 : List torPart.den) (a2 : Int) (a3 : Int) (a4 : Bool) (a5 : List Int) (a6 : Int) : Option ioorTopic.Res := bif decide (a6 = 130048) && decide (a5.length ≤ 130048) then bif decide (130048 = 130048) && decide ((spStrE a0 (a3, a4, a5)).snd.snd.length ≤ 130048) then some (Out.ret ((), ((), ()), ((), a2, (sporPsE a2 a1 (spStrE a0 (a3, a4, a5))).fst, (sporPsE a2 a1 (spStrE a0 (a3, a4, a5))).snd.fst, ()), ((sporPsE a2 a1 (spStrE a0 (a3, a4, a5))).snd.snd, 130048, ()), ())) else none else none
theorem runorTopic (a0 : List Int) (a1 : List torPart.den) (a2 : Int) (a3 : Int) (a4 : Bool) (a5 : List Int) (a6 : Int) : Io.run tt hdorTopic dr lporTopic ioorTopic Go.Proofs.Tryz.f73 (((a0, a1, ()), (), ()), ((), ()), ((), a2, a3, a4, ()), (a5, a6, ()), ()) = bodyorTopic a0 a1 a2 a3 a4 a5 a6 := by kernel_rfl
theorem okorTopic : HcOk prog 73 (ioHd ioorTopic ForTopic) := by
  refine fn_sound (n := 400) hm (cs := csorTopic) (.cons okeStr (.cons okorParts .nil)) (lp := lporTopic) (fn := Go.Proofs.Tryz.f73) (by kernel_rfl) (by kernel_rfl) (by kernel_rfl) ioorTopic (.done (by kernel_rfl)) ForTopic ?_
  rintro ⟨⟨⟨(t : List Int), (ps : List torPart.den), ⟨⟩⟩, ⟨⟩, ⟨⟩⟩, ⟨⟨⟩, ⟨⟩⟩, ⟨⟨⟩, (v : Int), (e : Int), (f : Bool), ⟨⟩⟩, ⟨(b : List Int), (m : Int), ⟨⟩⟩, ⟨⟩⟩ out hw ho
  obtain ⟨hg, ho⟩ := Tr.guard ho
  obtain ⟨rfl, hb⟩ := encOk_iff (v := v) (e := e) (f := f) hg
  cases ho
  refine (runorTopic t ps v e f b 130048).trans ?_
  unfold bodyorTopic
  refine (bif_true (by simpa using hb) _ _).trans ?_
  refine (bif_true (by simpa using spStrE_le (s := (e, f, b)) t hb) _ _).trans ?_
  rfl
theorem sporTE_le {s : EnS} (v : Int) (t : torTopic.den) (h : s.2.2.length ≤ 130048) : (sporTE v t s).2.2.length ≤ 130048 := spItems_le (fun x s => sporPE_le v x) _ (spStrE_le _ h)
def sporTsE (v : Int) (xs : List torTopic.den) (s : EnS) : EnS := spItems (sporTE v) xs s
abbrev ioorTopics : Io := ⟨[.ptr 0 0, .dat (.sl 53 torTopic) false false, .fnc 73 false [2]], oEncC, [], [], none⟩
def ForTopics (d : ioorTopics.In) : Tr ioorTopics.Res := .ite (encOkC d.2) (.ret (.ret ((), encOutC d.2.1.2.1 (sporTsE d.2.1.2.1 d.1.2.1 (encStC d.2))))) .no
abbrev csorTopics : List (Nat × Hc) := [(137, ioHd ioeFail FeFail), (56, ioHd ioeI32 FeI32), (73, ioHd ioorTopic ForTopic)]
def hdorTopics : Hd := hdT csorTopics
abbrev loorTopics_5 : Lo := ⟨⟨[.any, .any, .one (.fnp 73 false [2]), .any, .any, .any, .any, .any, .any, .any, .any, .any, .any, .any, .any, .any, .any, .any, .one (.hol (.sl 53 torTopic)), .one (.hol (.int IntKind.i64)), .one (.hol (.int IntKind.i64)), .any, .any, .any, .any, .any, .any, .any], [some [.ptr 1 0, .hol (.int IntKind.i64), .hol (.int IntKind.i64), .hol .bool], some [.onl 5 (Ty.int IntKind.u8) 514, .hol (.int IntKind.i64)], some [.ptr 0 0]]⟩, [(.exit 0, ⟨[.any, .any, .any, .any, .any, .any, .any, .any, .any, .any, .any, .any, .any, .any, .any, .any, .any, .any, .any, .any, .any, .any, .any, .any, .any, .any, .any, .any], [some [.ptr 1 0, .hol (.int IntKind.i64), .hol (.int IntKind.i64), .hol .bool], some [.onl 5 (Ty.int IntKind.u8) 514, .hol (.int IntKind.i64)], some [.ptr 0 0]]⟩)]⟩
-- ForTopics_5 : loorTopics_5.st.den → Tr (DenX loorTopics_5.xs) | ((h6, (h7, (h8, ()))), ((h9, (h10, (h11, ()))), ((h12, (h13, ())), ((), ()))))
def ForTopics_5 (d : loorTopics_5.st.den) : Tr (DenX loorTopics_5.xs) :=
  .ite (decide (d.1.2.2.1 = 0) && (decide (d.1.2.1 = (d.1.1.length : Int)) && (decide (d.2.2.1.2.1 = 130048) && decide (d.2.2.1.1.length ≤ 130048)))) (.ret (.ret ((), ((), encOutB d.2.1.1 (d.1.1.foldl (fun s x => sporTE d.2.1.1 x s) (d.2.1.2.1, (d.2.1.2.2.1, d.2.2.1.1))))))) .no
def lporTopics : Lp := lpT [(5, loHd loorTopics_5 ForTopics_5)]
def steporTopics_5 {R : Type} (h6 : List torTopic.den) (h7 : Int) (h8 : Int) (h9 : Int) (h10 : Int) (h11 : Bool) (h12 : List Int) (h13 : Int) (next : List torTopic.den → Int → Int → Int → Int → Bool → List Int → Int → Option R) (out : DenX loorTopics_5.xs → Option R) : Option R := bif decide (h8 < h7) then bif decide (0 ≤ h8) && decide (h8 < (↑h6.length : Int)) then bif decide (h13 = 130048) && decide (h12.length ≤ 130048) then next (h6) (h7) (IntKind.i64.wrap (h8 + 1)) (h9) ((sporTE h9 (h6.getD h8.toNat ([], [], ())) (h10, h11, h12)).fst) ((sporTE h9 (h6.getD h8.toNat ([], [], ())) (h10, h11, h12)).snd.fst) ((sporTE h9 (h6.getD h8.toNat ([], [], ())) (h10, h11, h12)).snd.snd) (130048) else none else none else out (.ret ((), ((), ((h9, (h10, (h11, ()))), ((h12, (h13, ())), ((), ()))))))
def itorTopics_5 (n : Nat) (h6 : List torTopic.den) (h7 : Int) (h8 : Int) (h9 : Int) (h10 : Int) (h11 : Bool) (h12 : List Int) (h13 : Int) : Option (DenX loorTopics_5.xs) := lpN tt hdorTopics dr lporTopics 3 Go.Proofs.Tryz.f72 (topL Go.Proofs.Tryz.f72 0) n (loorTopics_5.st.mk' ((h6, (h7, (h8, ()))), ((h9, (h10, (h11, ()))), ((h12, (h13, ())), ((), ()))))) (decX loorTopics_5.xs)
theorem slorTopics_5 (n : Nat) (h6 : List torTopic.den) (h7 : Int) (h8 : Int) (h9 : Int) (h10 : Int) (h11 : Bool) (h12 : List Int) (h13 : Int) : itorTopics_5 (n + 1) h6 h7 h8 h9 h10 h11 h12 h13 = steporTopics_5 h6 h7 h8 h9 h10 h11 h12 h13 (itorTopics_5 n) some := by kernel_rfl
theorem looporTopics {xs : List torTopic.den} (v : Int) (hl : xs.length ≤ maxLen) : ∀ (k i : Nat) (s : EnS), xs.length < i + k → i ≤ xs.length → s.2.2.length ≤ 130048 →
    itorTopics_5 k xs (xs.length : Int) i v s.1 s.2.1 s.2.2 130048 = some (.ret ((), ((), encOutB v ((xs.drop i).foldl (fun s x => sporTE v x s) s)))) := by
  intro k
  induction k with
  | zero => intro i s h; omega
  | succ k ih =>
    intro i s h1 h2 h3
    rw [slorTopics_5]
    unfold steporTopics_5
    by_cases hi : i < xs.length
    · refine (bif_true (decide_eq_true (show (i : Int) < (xs.length : Int) by omega)) _ _).trans ?_
      refine (bif_true (by simpa using hi) _ _).trans ?_
      simp only [Int.toNat_natCast, getD_lt hi, wrap_succ hi hl]
      have g : (decide ((130048 : Int) = 130048) && decide (s.2.2.length ≤ 130048)) = true := by
        simpa using h3
      refine (bif_true g _ _).trans ?_
      rw [List.drop_eq_getElem_cons hi]
      exact ih (i + 1) (sporTE v xs[i] s) (by omega) (by omega) (sporTE_le v _ h3)
    · refine (bif_false (by simp; omega) _ _).trans ?_
      rw [List.drop_of_length_le (by omega)]
      rfl
def bodyorTopics (a0 : List torTopic.den) (a1 : Int) (a2 : Int) (a3 : Bool) (a4 : List Int) (a5 : Int) : Option ioorTopics.Res := bif decide (16 < (↑a0.length : Int)) then bif decide (a5 = 130048) && decide (a4.length ≤ 130048) then some (Out.ret ((), ((), a1, (spFail 9 (a2, a3, a4)).fst, (spFail 9 (a2, a3, a4)).snd.fst, ()), ((spFail 9 (a2, a3, a4)).snd.snd, 130048, ()), ((), ()), ())) else none else bif decide (a5 = 130048) && decide (a4.length ≤ 130048) then (ForTopics_5 ((a0, ((↑a0.length : Int), (0, ()))), ((a1, ((spPutE (IntKind.i32.wrap (↑a0.length : Int)) 4 (a2, a3, a4)).fst, ((spPutE (IntKind.i32.wrap (↑a0.length : Int)) 4 (a2, a3, a4)).snd.fst, ()))), (((spPutE (IntKind.i32.wrap (↑a0.length : Int)) 4 (a2, a3, a4)).snd.snd, (130048, ())), ((), ()))))).run fun y => match y with | .ret ((), ((), (x27, x28, x29, ()), (x30, x31, ()), (), ())) => (some (Out.ret ((), ((), x27, x28, x29, ()), (x30, x31, ()), ((), ()), ()))) else none
theorem runorTopics (a0 : List torTopic.den) (a1 : Int) (a2 : Int) (a3 : Bool) (a4 : List Int) (a5 : Int) : Io.run tt hdorTopics dr lporTopics ioorTopics Go.Proofs.Tryz.f72 (((), a0, (), ()), ((), a1, a2, a3, ()), (a4, a5, ()), ((), ()), ()) = bodyorTopics a0 a1 a2 a3 a4 a5 := by kernel_rfl
theorem okorTopics : HcOk prog 72 (ioHd ioorTopics ForTopics) := by
  refine fn_sound (n := 400) hm (cs := csorTopics) (.cons okeFail (.cons okeI32 (.cons okorTopic .nil))) (lp := lporTopics) (fn := Go.Proofs.Tryz.f72) (by kernel_rfl) (by kernel_rfl) (by kernel_rfl) ioorTopics (.step (h0 := loHd loorTopics_5 ForTopics_5) (by kernel_rfl) (loop_sound (n := 400) hm (cs := csorTopics) (.cons okeFail (.cons okeI32 (.cons okorTopic .nil))) (lp := lporTopics) (fn := Go.Proofs.Tryz.f72) (.done (by kernel_rfl)) loorTopics_5 ForTopics_5 ?_) (.done (by kernel_rfl))) ForTopics ?_
  · rintro ⟨⟨(xs : List torTopic.den), (n : Int), (i : Int), ⟨⟩⟩, ⟨⟨(v : Int), (e : Int), (f : Bool), ⟨⟩⟩, ⟨(b : List Int), (m : Int), ⟨⟩⟩, ⟨⟨⟩, ⟨⟩⟩⟩⟩ y hw hy
    obtain ⟨hg, hy⟩ := Tr.guard hy
    simp only [Bool.and_eq_true, decide_eq_true_eq] at hg
    obtain ⟨rfl, rfl, rfl, h4⟩ := hg
    have h4 : b.length ≤ 130048 := h4
    have hl : xs.length ≤ maxLen := hw.1.1.1
    refine ⟨xs.length + 1, (looporTopics v hl (xs.length + 1) 0 (e, (f, b)) (by omega) (by omega) h4).trans ?_⟩
    rw [← hy]; rfl
  · rintro ⟨⟨⟨⟩, (xs : List torTopic.den), ⟨⟩, ⟨⟩⟩, ⟨⟨⟩, (v : Int), (e : Int), (f : Bool), ⟨⟩⟩, ⟨(b : List Int), (m : Int), ⟨⟩⟩, ⟨⟨⟩, ⟨⟩⟩, ⟨⟩⟩ out hw ho
    obtain ⟨hg, ho⟩ := Tr.guard ho
    obtain ⟨rfl, hb⟩ := encOk_iff (v := v) (e := e) (f := f) hg
    cases ho
    refine (runorTopics xs v e f b 130048).trans ?_
    unfold bodyorTopics
    have g : (decide ((130048 : Int) = 130048) && decide (b.length ≤ 130048)) = true := by simpa using hb
    show _ = some (Out.ret ((), encOutC v (spItems (sporTE v) xs (e, f, b))))
    unfold spItems
    by_cases h : 16 < (xs.length : Int)
    · rw [if_pos h]
      refine (bif_true (decide_eq_true h) _ _).trans ?_
      exact bif_true g _ _
    · rw [if_neg h]
      refine (bif_false (decide_eq_false h) _ _).trans ?_
      refine (bif_true g _ _).trans ?_
      have hw32 : IntKind.i32.wrap (xs.length : Int) = xs.length := wrap_id (by simp [inR, IntKind.min, IntKind.max, IntKind.signed, IntKind.bits]; omega)
      rw [hw32]
      have c1 : (decide ((0 : Int) = 0) && (decide ((xs.length : Int) = (xs.length : Int)) && (decide ((130048 : Int) = 130048) && decide ((spPutE xs.length 4 (e, f, b)).2.2.length ≤ 130048)))) = true := by
        simpa using spPutE_le (s := (e, f, b)) _ 4 hb
      have e1 : ForTopics_5 ((xs, ((xs.length : Int), (0, ()))), ((v, ((spPutE xs.length 4 (e, f, b)).1, ((spPutE xs.length 4 (e, f, b)).2.1, ()))), (((spPutE xs.length 4 (e, f, b)).2.2, (130048, ())), ((), ())))) =
          .ite true (.ret (.ret ((), ((), encOutB v (xs.foldl (fun s x => sporTE v x s) (spPutE xs.length 4 (e, f, b))))))) .no := congrArg (fun c => Tr.ite c _ _) c1
      rw [e1]
      rfl
def sporLP (v : Int) (p : torPart.den) (s : EnS) : EnS := spLacks v (p.2.2.2.2.2.1 == 0) 3 3 (spLacks v ((p.2.2.2.1 == 0) && (p.2.2.2.2.1 == 0)) 1 3 (spLacks v ((p.2.2.1.length : Int) == 0) 0 0 s))
abbrev ioorLacks : Io := ⟨[.ptr 0 0, .dat torPart true false], oEnc, [], [], none⟩
def ForLacks (d : ioorLacks.In) : Tr ioorLacks.Res := .ite (encOk d.2) (.ret (.ret ((), encOut d.2.1.2.1 (sporLP d.2.1.2.1 d.1.2.1 (encSt d.2))))) .no
abbrev csorLacks : List (Nat × Hc) := [(55, ioHd ioeLacks FeLacks)]
def hdorLacks : Hd := hdT csorLacks
def lporLacks : Lp := lpT []
def bodyorLacks (a0 : Int) (a1 : Int) (a2 : List Int) (a3 : Int) (a4 : Int) (a5 : Int) (a6 : Int) (a7 : Int) (a8 : Bool) (a9 : List Int) (a10 : Int) : Option ioorLacks.Res := bif decide (a10 = 130048) && decide (a9.length ≤ 130048) then bif a3 == 0 then bif decide (130048 = 130048) && decide ((spLacks a6 ((↑a2.length : Int) == 0) 0 0 (a7, a8, a9)).snd.snd.length ≤ 130048) then bif decide (130048 = 130048) && decide ((spLacks a6 (a4 == 0) 1 3 (spLacks a6 ((↑a2.length : Int) == 0) 0 0 (a7, a8, a9))).snd.snd.length ≤ 130048) then some (Out.ret ((), ((), a6, (spLacks a6 (a5 == 0) 3 3 (spLacks a6 (a4 == 0) 1 3 (spLacks a6 ((↑a2.length : Int) == 0) 0 0 (a7, a8, a9)))).fst, (spLacks a6 (a5 == 0) 3 3 (spLacks a6 (a4 == 0) 1 3 (spLacks a6 ((↑a2.length : Int) == 0) 0 0 (a7, a8, a9)))).snd.fst, ()), ((spLacks a6 (a5 == 0) 3 3 (spLacks a6 (a4 == 0) 1 3 (spLacks a6 ((↑a2.length : Int) == 0) 0 0 (a7, a8, a9)))).snd.snd, 130048, ()), ())) else none else none else bif decide (130048 = 130048) && decide ((spLacks a6 ((↑a2.length : Int) == 0) 0 0 (a7, a8, a9)).snd.snd.length ≤ 130048) then bif decide (130048 = 130048) && decide ((spLacks a6 false 1 3 (spLacks a6 ((↑a2.length : Int) == 0) 0 0 (a7, a8, a9))).snd.snd.length ≤ 130048) then some (Out.ret ((), ((), a6, (spLacks a6 (a5 == 0) 3 3 (spLacks a6 false 1 3 (spLacks a6 ((↑a2.length : Int) == 0) 0 0 (a7, a8, a9)))).fst, (spLacks a6 (a5 == 0) 3 3 (spLacks a6 false 1 3 (spLacks a6 ((↑a2.length : Int) == 0) 0 0 (a7, a8, a9)))).snd.fst, ()), ((spLacks a6 (a5 == 0) 3 3 (spLacks a6 false 1 3 (spLacks a6 ((↑a2.length : Int) == 0) 0 0 (a7, a8, a9)))).snd.snd, 130048, ()), ())) else none else none else none
theorem runorLacks (a0 : Int) (a1 : Int) (a2 : List Int) (a3 : Int) (a4 : Int) (a5 : Int) (a6 : Int) (a7 : Int) (a8 : Bool) (a9 : List Int) (a10 : Int) : Io.run tt hdorLacks dr lporLacks ioorLacks Go.Proofs.Tryz.f71 (((), (a0, a1, a2, a3, a4, a5, ()), ()), ((), a6, a7, a8, ()), (a9, a10, ()), ()) = bodyorLacks a0 a1 a2 a3 a4 a5 a6 a7 a8 a9 a10 := by kernel_rfl
theorem okorLacks : HcOk prog 71 (ioHd ioorLacks ForLacks) := by
  refine fn_sound (n := 400) hm (cs := csorLacks) (.cons okeLacks .nil) (lp := lporLacks) (fn := Go.Proofs.Tryz.f71) (by kernel_rfl) (by kernel_rfl) (by kernel_rfl) ioorLacks (.done (by kernel_rfl)) ForLacks ?_
  rintro ⟨⟨⟨⟩, ⟨(ix : Int), (cd : Int), (of : List Int), (ti : Int), (fo : Int), (ep : Int), ⟨⟩⟩, ⟨⟩⟩, ⟨⟨⟩, (v : Int), (e : Int), (f : Bool), ⟨⟩⟩, ⟨(b : List Int), (m : Int), ⟨⟩⟩, ⟨⟩⟩ out hw ho
  obtain ⟨hg, ho⟩ := Tr.guard ho
  obtain ⟨rfl, hb⟩ := encOk_iff (v := v) (e := e) (f := f) hg
  cases ho
  refine (runorLacks ix cd of ti fo ep v e f b 130048).trans ?_
  unfold bodyorLacks
  have hg : ∀ s : EnS, s.2.2.length ≤ 130048 → (decide ((130048 : Int) = 130048) && decide (s.2.2.length ≤ 130048)) = true := fun s h => by simpa using h
  have hb : (e, (f, b)).2.2.length ≤ 130048 := hb
  show _ = some (Out.ret ((), encOut v (sporLP v (ix, (cd, (of, (ti, (fo, (ep, ())))))) (e, f, b))))
  refine (bif_true (hg _ hb) _ _).trans ?_
  have q1 := spLacks_le (s := (e, f, b)) v ((of.length : Int) == 0) 0 0 hb
  by_cases ht : ti = 0
  · refine (bif_true (by simpa using ht) _ _).trans ?_
    refine (bif_true (hg _ q1) _ _).trans ?_
    have q2 := spLacks_le (s := spLacks v ((of.length : Int) == 0) 0 0 (e, f, b)) v (fo == 0) 1 3 q1
    refine (bif_true (hg _ q2) _ _).trans ?_
    subst ht
    rfl
  · have ht' : (ti == 0) = false := by simpa using ht
    refine (bif_false ht' _ _).trans ?_
    refine (bif_true (hg _ q1) _ _).trans ?_
    have q2 := spLacks_le (s := spLacks v ((of.length : Int) == 0) 0 0 (e, f, b)) v false 1 3 q1
    refine (bif_true (hg _ q2) _ _).trans ?_
    unfold sporLP
    dsimp only
    rw [ht']
    rfl
def sporLPs (v : Int) (ps : List torPart.den) (s : EnS) : EnS := ps.foldl (fun s p => sporLP v p s) s
def sporLR (v : Int) (ts : List torTopic.den) (s : EnS) : EnS := ts.foldl (fun s t => sporLPs v t.2.1 s) s
def sporE (v : Int) (m : torMsg.den) : EnS := sporTsE v m.2.1 (spHasE v 2 3 m.1 4 (sporLR v m.2.1 (spLacks v (m.1 == 0) 2 3 (spNewE v, (false, ([] : List Int))))))
abbrev ioorMsg : Io := ⟨[dI, .dat torMsg true false], [], [], [dO, dI], none⟩
def ForMsg (d : ioorMsg.In) : Tr ioorMsg.Res := .ret (.ret ((spDoneO (sporE d.1.1 d.1.2.1), (spDoneE (sporE d.1.1 d.1.2.1), ())), ()))
abbrev csorMsg : List (Nat × Hc) := [(54, ioHd ioeNew FeNew), (55, ioHd ioeLacks FeLacks), (57, ioHd ioeHas FeHas), (56, ioHd ioeI32 FeI32), (71, ioHd ioorLacks ForLacks), (72, ioHd ioorTopics ForTopics), (65, ioHd ioeDone FeDone)]
def hdorMsg : Hd := hdT csorMsg
abbrev loorMsg_8 : Lo := ⟨⟨[.any, .any, .any, .one (.ptr 3 0), .any, .any, .one (.ptr 6 0), .any, .any, .any, .any, .any, .any, .any, .any, .any, .any, .any, .any, .one (.hol (.sl 53 torTopic)), .one (.hol (.int IntKind.i64)), .one (.hol (.int IntKind.i64)), .any, .any, .any, .any, .one (.hol (.sl 57 torPart)), .one (.hol (.int IntKind.i64)), .one (.hol (.int IntKind.i64)), .any, .any, .any, .any, .any, .any, .any, .any, .any, .any, .any, .any, .any, .any, .any, .any, .any, .any, .any, .any, .any, .any, .any], [none, none, none, some [.hol (.int IntKind.i32), .hol (.sl 53 torTopic)], none, none, some [.ptr 12 0], none, none, none, none, none, some [.ptr 13 0, .hol (.int IntKind.i64), .hol (.int IntKind.i64), .hol .bool], some [.onl 5 (Ty.int IntKind.u8) 6658, .hol (.int IntKind.i64)]]⟩, [(.exit 2, ⟨[.any, .any, .any, .one (.ptr 3 0), .any, .any, .one (.ptr 6 0), .any, .any, .any, .any, .any, .any, .any, .any, .any, .any, .any, .any, .one (.hol (.sl 53 torTopic)), .one (.hol (.int IntKind.i64)), .one (.hol (.int IntKind.i64)), .any, .any, .any, .any, .any, .any, .any, .any, .any, .any, .any, .any, .any, .any, .any, .any, .any, .any, .any, .any, .any, .any, .any, .any, .any, .any, .any, .any, .any, .any], [none, none, none, some [.hol (.int IntKind.i32), .hol (.sl 53 torTopic)], none, none, some [.ptr 12 0], none, none, none, none, none, some [.ptr 13 0, .hol (.int IntKind.i64), .hol (.int IntKind.i64), .hol .bool], some [.onl 5 (Ty.int IntKind.u8) 6658, .hol (.int IntKind.i64)]]⟩)]⟩
-- ForMsg_8 : loorMsg_8.st.den → Tr (DenX loorMsg_8.xs) | ((h13, (h14, (h15, (h16, (h17, (h18, ())))))), ((h19, (h20, ())), ((), ((h21, (h22, (h23, ()))), ((h24, (h25, ())), ())))))
abbrev loorMsg_5 : Lo := ⟨⟨[.any, .any, .any, .one (.ptr 3 0), .any, .any, .one (.ptr 6 0), .any, .any, .any, .any, .any, .any, .any, .any, .any, .any, .any, .any, .one (.hol (.sl 53 torTopic)), .one (.hol (.int IntKind.i64)), .one (.hol (.int IntKind.i64)), .any, .any, .any, .any, .any, .any, .any, .any, .any, .any, .any, .any, .any, .any, .any, .any, .any, .any, .any, .any, .any, .any, .any, .any, .any, .any, .any, .any, .any, .any], [none, none, none, some [.hol (.int IntKind.i32), .hol (.sl 53 torTopic)], none, none, some [.ptr 12 0], none, none, none, none, none, some [.ptr 13 0, .hol (.int IntKind.i64), .hol (.int IntKind.i64), .hol .bool], some [.onl 5 (Ty.int IntKind.u8) 6658, .hol (.int IntKind.i64)]]⟩, [(.exit 0, ⟨[.any, .any, .any, .one (.ptr 3 0), .any, .any, .one (.ptr 6 0), .any, .any, .any, .any, .any, .any, .any, .any, .any, .any, .any, .any, .any, .any, .any, .any, .any, .any, .any, .any, .any, .any, .any, .any, .any, .any, .any, .any, .any, .any, .any, .any, .any, .any, .any, .any, .any, .any, .any, .any, .any, .any, .any, .any, .any], [none, none, none, some [.hol (.int IntKind.i32), .hol (.sl 53 torTopic)], none, none, some [.ptr 12 0], none, none, none, none, none, some [.ptr 13 0, .hol (.int IntKind.i64), .hol (.int IntKind.i64), .hol .bool], some [.onl 5 (Ty.int IntKind.u8) 6658, .hol (.int IntKind.i64)]]⟩)]⟩
-- ForMsg_5 : loorMsg_5.st.den → Tr (DenX loorMsg_5.xs) | ((h3, (h4, (h5, ()))), ((h6, (h7, ())), ((), ((h8, (h9, (h10, ()))), ((h11, (h12, ())), ())))))
abbrev outBor (th' : Int) (ts' : List torTopic.den) (v : Int) (s : EnS) : (Int × (List torTopic.den × Unit)) × (Unit × ((Int × (Int × (Bool × Unit))) × ((List Int × (Int × Unit)) × Unit))) := ((th', (ts', ())), ((), ((v, (s.1, (s.2.1, ()))), ((s.2.2, (130048, ())), ()))))
def ForMsg_8 (d : loorMsg_8.st.den) : Tr (DenX loorMsg_8.xs) :=
  .ite (decide (d.1.2.2.2.2.2.1 = 0) && (decide (d.1.2.2.2.2.1 = (d.1.2.2.2.1.length : Int)) && (decide (d.2.2.2.2.1.2.1 = 130048) && decide (d.2.2.2.2.1.1.length ≤ 130048)))) (.ret (.ret ((), ((d.1.1, (d.1.2.1, (d.1.2.2.1, ()))), outBor d.2.1.1 d.2.1.2.1 d.2.2.2.1.1 (sporLPs d.2.2.2.1.1 d.1.2.2.2.1 (d.2.2.2.1.2.1, (d.2.2.2.1.2.2.1, d.2.2.2.2.1.1))))))) .no
def ForMsg_5 (d : loorMsg_5.st.den) : Tr (DenX loorMsg_5.xs) :=
  .ite (decide (d.1.2.2.1 = 0) && (decide (d.1.2.1 = (d.1.1.length : Int)) && (decide (d.2.2.2.2.1.2.1 = 130048) && decide (d.2.2.2.2.1.1.length ≤ 130048)))) (.ret (.ret ((), ((), outBor d.2.1.1 d.2.1.2.1 d.2.2.2.1.1 (sporLR d.2.2.2.1.1 d.1.1 (d.2.2.2.1.2.1, (d.2.2.2.1.2.2.1, d.2.2.2.2.1.1))))))) .no
def lporMsg : Lp := lpT [(5, loHd loorMsg_5 ForMsg_5), (8, loHd loorMsg_8 ForMsg_8)]
def steporMsg_8 {R : Type} (h13 : List torTopic.den) (h14 : Int) (h15 : Int) (h16 : List torPart.den) (h17 : Int) (h18 : Int) (h19 : Int) (h20 : List torTopic.den) (h21 : Int) (h22 : Int) (h23 : Bool) (h24 : List Int) (h25 : Int) (next : List torTopic.den → Int → Int → List torPart.den → Int → Int → Int → List torTopic.den → Int → Int → Bool → List Int → Int → Option R) (out : DenX loorMsg_8.xs → Option R) : Option R := bif decide (h18 < h17) then bif decide (0 ≤ h18) && decide (h18 < (↑h16.length : Int)) then bif decide (h25 = 130048) && decide (h24.length ≤ 130048) then next (h13) (h14) (h15) (h16) (h17) (IntKind.i64.wrap (h18 + 1)) (h19) (h20) (h21) ((sporLP h21 (h16.getD h18.toNat (0, 0, [], 0, 0, 0, ())) (h22, h23, h24)).fst) ((sporLP h21 (h16.getD h18.toNat (0, 0, [], 0, 0, 0, ())) (h22, h23, h24)).snd.fst) ((sporLP h21 (h16.getD h18.toNat (0, 0, [], 0, 0, 0, ())) (h22, h23, h24)).snd.snd) (130048) else none else none else out (.ret ((), ((h13, (h14, (h15, ()))), ((h19, (h20, ())), ((), ((h21, (h22, (h23, ()))), ((h24, (h25, ())), ())))))))
def itorMsg_8 (n : Nat) (h13 : List torTopic.den) (h14 : Int) (h15 : Int) (h16 : List torPart.den) (h17 : Int) (h18 : Int) (h19 : Int) (h20 : List torTopic.den) (h21 : Int) (h22 : Int) (h23 : Bool) (h24 : List Int) (h25 : Int) : Option (DenX loorMsg_8.xs) := lpN tt hdorMsg dr lporMsg 0 Go.Proofs.Tryz.f21 (subL Go.Proofs.Tryz.f21 (topL Go.Proofs.Tryz.f21 0) 0) n (loorMsg_8.st.mk' ((h13, (h14, (h15, (h16, (h17, (h18, ())))))), ((h19, (h20, ())), ((), ((h21, (h22, (h23, ()))), ((h24, (h25, ())), ())))))) (decX loorMsg_8.xs)
theorem slorMsg_8 (n : Nat) (h13 : List torTopic.den) (h14 : Int) (h15 : Int) (h16 : List torPart.den) (h17 : Int) (h18 : Int) (h19 : Int) (h20 : List torTopic.den) (h21 : Int) (h22 : Int) (h23 : Bool) (h24 : List Int) (h25 : Int) : itorMsg_8 (n + 1) h13 h14 h15 h16 h17 h18 h19 h20 h21 h22 h23 h24 h25 = steporMsg_8 h13 h14 h15 h16 h17 h18 h19 h20 h21 h22 h23 h24 h25 (itorMsg_8 n) some := by kernel_rfl
def steporMsg_5 {R : Type} (h3 : List torTopic.den) (h4 : Int) (h5 : Int) (h6 : Int) (h7 : List torTopic.den) (h8 : Int) (h9 : Int) (h10 : Bool) (h11 : List Int) (h12 : Int) (next : List torTopic.den → Int → Int → Int → List torTopic.den → Int → Int → Bool → List Int → Int → Option R) (out : DenX loorMsg_5.xs → Option R) : Option R := bif decide (h5 < h4) then bif decide (0 ≤ h5) && decide (h5 < (↑h3.length : Int)) then (ForMsg_8 ((h3, (h4, (h5, ((h3.getD h5.toNat ([], [], ())).snd.fst, ((↑(List.length (h3.getD h5.toNat ([], [], ())).snd.fst) : Int), (0, ())))))), ((h6, (h7, ())), ((), ((h8, (h9, (h10, ()))), ((h11, (h12, ())), ())))))).run fun y => match y with | .ret ((), ((x49, x50, x51, ()), (x52, x53, ()), (), (x54, x55, x56, ()), (x57, x58, ()), ())) => (next (x49) (x50) (IntKind.i64.wrap (x51 + 1)) (x52) (x53) (x54) (x55) (x56) (x57) (x58)) else none else out (.ret ((), ((), ((h6, (h7, ())), ((), ((h8, (h9, (h10, ()))), ((h11, (h12, ())), ())))))))
def itorMsg_5 (n : Nat) (h3 : List torTopic.den) (h4 : Int) (h5 : Int) (h6 : Int) (h7 : List torTopic.den) (h8 : Int) (h9 : Int) (h10 : Bool) (h11 : List Int) (h12 : Int) : Option (DenX loorMsg_5.xs) := lpN tt hdorMsg dr lporMsg 0 Go.Proofs.Tryz.f21 (topL Go.Proofs.Tryz.f21 0) n (loorMsg_5.st.mk' ((h3, (h4, (h5, ()))), ((h6, (h7, ())), ((), ((h8, (h9, (h10, ()))), ((h11, (h12, ())), ())))))) (decX loorMsg_5.xs)
theorem slorMsg_5 (n : Nat) (h3 : List torTopic.den) (h4 : Int) (h5 : Int) (h6 : Int) (h7 : List torTopic.den) (h8 : Int) (h9 : Int) (h10 : Bool) (h11 : List Int) (h12 : Int) : itorMsg_5 (n + 1) h3 h4 h5 h6 h7 h8 h9 h10 h11 h12 = steporMsg_5 h3 h4 h5 h6 h7 h8 h9 h10 h11 h12 (itorMsg_5 n) some := by kernel_rfl
theorem sporLP_le {s : EnS} (v : Int) (p : torPart.den) (h : s.2.2.length ≤ 130048) : (sporLP v p s).2.2.length ≤ 130048 := spLacks_le _ _ _ _ (spLacks_le _ _ _ _ (spLacks_le _ _ _ _ h))
theorem sporLPs_le {s : EnS} (v : Int) (ps : List torPart.den) (h : s.2.2.length ≤ 130048) : (sporLPs v ps s).2.2.length ≤ 130048 := foldl_le (fun x s => sporLP_le v x) ps s h
theorem sporLR_le {s : EnS} (v : Int) (ts : List torTopic.den) (h : s.2.2.length ≤ 130048) : (sporLR v ts s).2.2.length ≤ 130048 := foldl_le (one := fun (t : torTopic.den) (s : EnS) => sporLPs v t.2.1 s) (fun x s h => sporLPs_le v x.2.1 h) ts s h
theorem looporMsg_8 (us : List torTopic.den) (n i : Int) (th' : Int) (ts' : List torTopic.den) (v : Int) {ps : List torPart.den} (hl : ps.length ≤ maxLen) : ∀ (k j : Nat) (s : EnS), ps.length < j + k → j ≤ ps.length → s.2.2.length ≤ 130048 →
    itorMsg_8 k us n i ps (ps.length : Int) j th' ts' v s.1 s.2.1 s.2.2 130048 = some (.ret ((), ((us, (n, (i, ()))), outBor th' ts' v ((ps.drop j).foldl (fun s p => sporLP v p s) s)))) := by
  intro k
  have hg : ∀ s : EnS, s.2.2.length ≤ 130048 → (decide ((130048 : Int) = 130048) && decide (s.2.2.length ≤ 130048)) = true := fun s h => by simpa using h
  induction k with
  | zero => intro j s h; omega
  | succ k ih =>
    intro j s h1 h2 q0
    rw [slorMsg_8]
    unfold steporMsg_8
    by_cases hi : j < ps.length
    · refine (bif_true (decide_eq_true (show (j : Int) < (ps.length : Int) by omega)) _ _).trans ?_
      refine (bif_true (by simpa using hi) _ _).trans ?_
      simp only [Int.toNat_natCast, getD_lt hi, wrap_succ hi hl]
      refine (bif_true (hg _ q0) _ _).trans ?_
      rw [List.drop_eq_getElem_cons hi]
      exact ih (j + 1) (sporLP v ps[j] s) (by omega) (by omega) (sporLP_le _ _ q0)
    · refine (bif_false (by simp; omega) _ _).trans ?_
      rw [List.drop_of_length_le (by omega)]
      rfl
theorem looporMsg_5 {us : List torTopic.den} (th' : Int) (ts' : List torTopic.den) (v : Int) (hl : us.length ≤ maxLen) : ∀ (k j : Nat) (s : EnS), us.length < j + k → j ≤ us.length → s.2.2.length ≤ 130048 →
    itorMsg_5 k us (us.length : Int) j th' ts' v s.1 s.2.1 s.2.2 130048 = some (.ret ((), ((), outBor th' ts' v ((us.drop j).foldl (fun s t => sporLPs v t.2.1 s) s)))) := by
  intro k
  induction k with
  | zero => intro j s h; omega
  | succ k ih =>
    intro j s h1 h2 h3
    rw [slorMsg_5]
    unfold steporMsg_5
    by_cases hi : j < us.length
    · refine (bif_true (decide_eq_true (show (j : Int) < (us.length : Int) by omega)) _ _).trans ?_
      refine (bif_true (by simpa using hi) _ _).trans ?_
      simp only [Int.toNat_natCast, getD_lt hi]
      have c1 : (decide ((0 : Int) = 0) && (decide ((us[j].2.1.length : Int) = (us[j].2.1.length : Int)) && (decide ((130048 : Int) = 130048) && decide (s.2.2.length ≤ 130048)))) = true := by simpa using h3
      have e1 : ForMsg_8 ((us, ((us.length : Int), ((j : Int), (us[j].2.1, ((us[j].2.1.length : Int), (0, ())))))), ((th', (ts', ())), ((), ((v, (s.1, (s.2.1, ()))), ((s.2.2, (130048, ())), ()))))) =
          .ite true (.ret (.ret ((), ((us, ((us.length : Int), ((j : Int), ()))), outBor th' ts' v (sporLPs v us[j].2.1 s))))) .no := congrArg (fun c => Tr.ite c _ _) c1
      rw [e1]
      show itorMsg_5 k us (us.length : Int) (IntKind.i64.wrap ((j : Int) + 1)) th' ts' v (sporLPs v us[j].2.1 s).1 (sporLPs v us[j].2.1 s).2.1 (sporLPs v us[j].2.1 s).2.2 130048 = _
      rw [wrap_succ hi hl, List.drop_eq_getElem_cons hi]
      exact ih (j + 1) (sporLPs v us[j].2.1 s) (by omega) (by omega) (sporLPs_le _ _ h3)
    · refine (bif_false (by simp; omega) _ _).trans ?_
      rw [List.drop_of_length_le (by omega)]
      rfl
def bodyorMsg (a0 : Int) (a1 : Int) (a2 : List torTopic.den) : Option ioorMsg.Res := (ForMsg_5 ((a2, ((↑a2.length : Int), (0, ()))), ((a1, (a2, ())), ((), ((a0, ((spLacks a0 (a1 == 0) 2 3 (spNewE a0, false, [])).fst, ((spLacks a0 (a1 == 0) 2 3 (spNewE a0, false, [])).snd.fst, ()))), (((spLacks a0 (a1 == 0) 2 3 (spNewE a0, false, [])).snd.snd, (130048, ())), ())))))).run fun y => match y with | .ret ((), ((), (x76, x77, ()), (), (x78, x79, x80, ()), (x81, x82, ()), ())) => (bif decide (x82 = 130048) && decide (x81.length ≤ 130048) then bif decide (2 ≤ x78) && decide (x78 ≤ 3) then bif decide (130048 = 130048) && decide (x81.length ≤ 130048) then bif decide (130048 = 130048) && decide ((spPutE x76 4 (x79, x80, x81)).snd.snd.length ≤ 130048) then bif decide (130048 = 130048) && decide ((sporTsE x78 x77 (spPutE x76 4 (x79, x80, x81))).snd.snd.length ≤ 130048) then some (Out.ret ((spDoneO (sporTsE x78 x77 (spPutE x76 4 (x79, x80, x81))), spDoneE (sporTsE x78 x77 (spPutE x76 4 (x79, x80, x81))), ()), ())) else none else none else none else bif decide (130048 = 130048) && decide (x81.length ≤ 130048) then bif decide (130048 = 130048) && decide ((sporTsE x78 x77 (x79, x80, x81)).snd.snd.length ≤ 130048) then some (Out.ret ((spDoneO (sporTsE x78 x77 (x79, x80, x81)), spDoneE (sporTsE x78 x77 (x79, x80, x81)), ()), ())) else none else none else none)
theorem runorMsg (a0 : Int) (a1 : Int) (a2 : List torTopic.den) : Io.run tt hdorMsg dr lporMsg ioorMsg Go.Proofs.Tryz.f21 ((a0, (a1, a2, ()), ()), ()) = bodyorMsg a0 a1 a2 := by kernel_rfl
theorem okorMsg : HcOk prog 21 (ioHd ioorMsg ForMsg) := by
  refine fn_sound (n := 400) hm (cs := csorMsg) (.cons okeNew (.cons okeLacks (.cons okeHas (.cons okeI32 (.cons okorLacks (.cons okorTopics (.cons okeDone .nil))))))) (lp := lporMsg) (fn := Go.Proofs.Tryz.f21) (by kernel_rfl) (by kernel_rfl) (by kernel_rfl) ioorMsg (.step (h0 := loHd loorMsg_5 ForMsg_5) (by kernel_rfl) (loop_sound (n := 400) hm (cs := csorMsg) (.cons okeNew (.cons okeLacks (.cons okeHas (.cons okeI32 (.cons okorLacks (.cons okorTopics (.cons okeDone .nil))))))) (lp := lporMsg) (fn := Go.Proofs.Tryz.f21) (.step (h0 := loHd loorMsg_8 ForMsg_8) (by kernel_rfl) (loop_sound (n := 400) hm (cs := csorMsg) (.cons okeNew (.cons okeLacks (.cons okeHas (.cons okeI32 (.cons okorLacks (.cons okorTopics (.cons okeDone .nil))))))) (lp := lporMsg) (fn := Go.Proofs.Tryz.f21) (.done (by kernel_rfl)) loorMsg_8 ForMsg_8 ?_) (.done (by kernel_rfl))) loorMsg_5 ForMsg_5 ?_) (.done (by kernel_rfl))) ForMsg ?_
  · rintro ⟨⟨(us : List torTopic.den), (n : Int), (i : Int), (ps : List torPart.den), (pn : Int), (pj : Int), ⟨⟩⟩, ⟨⟨(th' : Int), (ts' : List torTopic.den), ⟨⟩⟩, ⟨⟩, ⟨(v : Int), (e : Int), (f : Bool), ⟨⟩⟩, ⟨(b : List Int), (m : Int), ⟨⟩⟩, ⟨⟩⟩⟩ y hw hy
    obtain ⟨hg, hy⟩ := Tr.guard hy
    simp only [Bool.and_eq_true, decide_eq_true_eq] at hg
    obtain ⟨rfl, rfl, rfl, h4⟩ := hg
    have h4 : b.length ≤ 130048 := h4
    have hl : ps.length ≤ maxLen := hw.1.2.2.2.1.1
    refine ⟨ps.length + 1, (looporMsg_8 us n i th' ts' v hl (ps.length + 1) 0 (e, (f, b)) (by omega) (by omega) h4).trans ?_⟩
    rw [← hy]; rfl
  · rintro ⟨⟨(us : List torTopic.den), (n : Int), (i : Int), ⟨⟩⟩, ⟨⟨(th' : Int), (ts' : List torTopic.den), ⟨⟩⟩, ⟨⟩, ⟨(v : Int), (e : Int), (f : Bool), ⟨⟩⟩, ⟨(b : List Int), (m : Int), ⟨⟩⟩, ⟨⟩⟩⟩ y hw hy
    obtain ⟨hg, hy⟩ := Tr.guard hy
    simp only [Bool.and_eq_true, decide_eq_true_eq] at hg
    obtain ⟨rfl, rfl, rfl, h4⟩ := hg
    have h4 : b.length ≤ 130048 := h4
    have hl : us.length ≤ maxLen := hw.1.1.1
    refine ⟨us.length + 1, (looporMsg_5 th' ts' v hl (us.length + 1) 0 (e, (f, b)) (by omega) (by omega) h4).trans ?_⟩
    rw [← hy]; rfl
  · rintro ⟨⟨(v : Int), ⟨(th : Int), (ts : List torTopic.den), ⟨⟩⟩, ⟨⟩⟩, ⟨⟩⟩ out hw ho
    cases ho
    refine (runorMsg v th ts).trans ?_
    unfold bodyorMsg
    have hg : ∀ s : EnS, s.2.2.length ≤ 130048 → (decide ((130048 : Int) = 130048) && decide (s.2.2.length ≤ 130048)) = true := fun s h => by simpa using h
    have q0 : (spNewE v, (false, ([] : List Int))).2.2.length ≤ 130048 := by simp
    have q1 := spLacks_le (s := (spNewE v, (false, ([] : List Int)))) v (th == 0) 2 3 q0
    have c1 : (decide ((0 : Int) = 0) && (decide ((ts.length : Int) = (ts.length : Int)) && (decide ((130048 : Int) = 130048) && decide ((spLacks v (th == 0) 2 3 (spNewE v, (false, ([] : List Int)))).2.2.length ≤ 130048)))) = true := by simpa using q1
    have e1 : ForMsg_5 ((ts, ((ts.length : Int), (0, ()))), ((th, (ts, ())), ((), ((v, ((spLacks v (th == 0) 2 3 (spNewE v, (false, ([] : List Int)))).1, ((spLacks v (th == 0) 2 3 (spNewE v, (false, ([] : List Int)))).2.1, ()))), (((spLacks v (th == 0) 2 3 (spNewE v, (false, ([] : List Int)))).2.2, (130048, ())), ()))))) =
        .ite true (.ret (.ret ((), ((), outBor th ts v (sporLR v ts (spLacks v (th == 0) 2 3 (spNewE v, (false, ([] : List Int))))))))) .no := congrArg (fun c => Tr.ite c _ _) c1
    rw [e1]
    have r0 := sporLR_le v ts q1
    refine (bif_true (hg _ r0) _ _).trans ?_
    by_cases h0_0 : 2 ≤ v ∧ v ≤ 3
    · refine (bif_true (by simpa using h0_0) _ _).trans ?_
      refine (bif_true (hg _ r0) _ _).trans ?_
      have l0_0 := spPutE_le th 4 r0
      refine (bif_true (hg _ l0_0) _ _).trans ?_
      have l1_1 := spItems_le (fun x s => sporTE_le v x) ts l0_0
      refine (bif_true (hg _ l1_1) _ _).trans ?_
      simp only [sporE, spHasE_in h0_0]
    · refine (bif_false (Bool.eq_false_iff.2 fun h' => h0_0 (by simpa using h')) _ _).trans ?_
      refine (bif_true (hg _ r0) _ _).trans ?_
      have l1_1 := spItems_le (fun x s => sporTE_le v x) ts r0
      refine (bif_true (hg _ l1_1) _ _).trans ?_
      simp only [sporE, spHasE_out h0_0]
end
end Go.Proofs.YtjpeefegeobgfaaGreat.Sym
namespace Go.Proofs.YtjpeefegeobgfaaGreat.Sym
open Go
set_option linter.unusedSimpArgs false
set_option linter.unusedVariables false
noncomputable section
@[irreducible] noncomputable def sporPD (v : Int) (b : List Int) (s : DeS) : torPart.den × DeS :=
  (((spDn .i32 4 b s).1, ((spDn .i16 2 b (spDn .i32 4 b s).2).1, ((spDHasNs v 0 0 b (spDn .i16 2 b (spDn .i32 4 b s).2).2).1, ((spDHasN .i64 8 v 1 3 b (spDHasNs v 0 0 b (spDn .i16 2 b (spDn .i32 4 b s).2).2).2).1, ((spDHasN .i64 8 v 1 3 b (spDHasN .i64 8 v 1 3 b (spDHasNs v 0 0 b (spDn .i16 2 b (spDn .i32 4 b s).2).2).2).2).1, ((spDHasN .i32 4 v 3 3 b (spDHasN .i64 8 v 1 3 b (spDHasN .i64 8 v 1 3 b (spDHasNs v 0 0 b (spDn .i16 2 b (spDn .i32 4 b s).2).2).2).2).2).1, ())))))), (spDHasN .i32 4 v 3 3 b (spDHasN .i64 8 v 1 3 b (spDHasN .i64 8 v 1 3 b (spDHasNs v 0 0 b (spDn .i16 2 b (spDn .i32 4 b s).2).2).2).2).2).2)
theorem sporPD_ok {v : Int} {b : List Int} {s : DeS} (h : spDok b s.2 = true) : spDok b (sporPD v b s).2.2 = true := by
  unfold sporPD
  exact spDHasN_ok (spDHasN_ok (spDHasN_ok (spDHasNs_ok (spDn_ok _ _ (spDn_ok _ _ (h))))))
abbrev iodorPart : Io := ⟨[.ptr 0 0], oDec1, [], [.dat torPart true false], none⟩
def FdorPart (d : iodorPart.In) : Tr iodorPart.Res := .ite (spDok d.2.2.2.1.1 d.2.2.2.1.2.1) (.ret (.ret (((sporPD d.2.2.1.2.1 d.2.2.2.1.1 (decSt d.2.2)).1, ()), decOut1 d.2.2.1.2.1 d.2.2.2.1.1 (sporPD d.2.2.1.2.1 d.2.2.2.1.1 (decSt d.2.2)).2))) .no
abbrev csdorPart : List (Nat × Hc) := [(87, ioHd iodI16 FdI16), (81, ioHd iodI32 FdI32), (89, ioHd iodI64 FdI64), (88, ioHd iodNs FdNs), (80, ioHd iodHas FdHas)]
def hddorPart : Hd := hdT csdorPart
def lpdorPart : Lp := lpT []
def bodydorPart (a0 : Int) (a1 : Int) (a2 : List Int) (a3 : Int) : Option iodorPart.Res := bif spDok a2 a3 then bif spDok a2 (spDn IntKind.i32 4 a2 (a1, a3)).snd.snd then bif spDHas a0 0 0 (spDn IntKind.i16 2 a2 (spDn IntKind.i32 4 a2 (a1, a3)).snd).snd.fst then bif spDok a2 (spDn IntKind.i16 2 a2 (spDn IntKind.i32 4 a2 (a1, a3)).snd).snd.snd then bif spDHas a0 1 3 (spNsD a2 (spDn IntKind.i16 2 a2 (spDn IntKind.i32 4 a2 (a1, a3)).snd).snd).snd.fst then bif spDok a2 (spNsD a2 (spDn IntKind.i16 2 a2 (spDn IntKind.i32 4 a2 (a1, a3)).snd).snd).snd.snd then bif spDok a2 (spDn IntKind.i64 8 a2 (spNsD a2 (spDn IntKind.i16 2 a2 (spDn IntKind.i32 4 a2 (a1, a3)).snd).snd).snd).snd.snd then bif spDHas a0 3 3 (spDn IntKind.i64 8 a2 (spDn IntKind.i64 8 a2 (spNsD a2 (spDn IntKind.i16 2 a2 (spDn IntKind.i32 4 a2 (a1, a3)).snd).snd).snd).snd).snd.fst then bif spDok a2 (spDn IntKind.i64 8 a2 (spDn IntKind.i64 8 a2 (spNsD a2 (spDn IntKind.i16 2 a2 (spDn IntKind.i32 4 a2 (a1, a3)).snd).snd).snd).snd).snd.snd then some (Out.ret ((((spDn IntKind.i32 4 a2 (a1, a3)).fst, (spDn IntKind.i16 2 a2 (spDn IntKind.i32 4 a2 (a1, a3)).snd).fst, (spNsD a2 (spDn IntKind.i16 2 a2 (spDn IntKind.i32 4 a2 (a1, a3)).snd).snd).fst, (spDn IntKind.i64 8 a2 (spNsD a2 (spDn IntKind.i16 2 a2 (spDn IntKind.i32 4 a2 (a1, a3)).snd).snd).snd).fst, (spDn IntKind.i64 8 a2 (spDn IntKind.i64 8 a2 (spNsD a2 (spDn IntKind.i16 2 a2 (spDn IntKind.i32 4 a2 (a1, a3)).snd).snd).snd).snd).fst, (spDn IntKind.i32 4 a2 (spDn IntKind.i64 8 a2 (spDn IntKind.i64 8 a2 (spNsD a2 (spDn IntKind.i16 2 a2 (spDn IntKind.i32 4 a2 (a1, a3)).snd).snd).snd).snd).snd).fst, ()), ()), ((), ()), ((), a0, (spDn IntKind.i32 4 a2 (spDn IntKind.i64 8 a2 (spDn IntKind.i64 8 a2 (spNsD a2 (spDn IntKind.i16 2 a2 (spDn IntKind.i32 4 a2 (a1, a3)).snd).snd).snd).snd).snd).snd.fst, ()), (a2, (spDn IntKind.i32 4 a2 (spDn IntKind.i64 8 a2 (spDn IntKind.i64 8 a2 (spNsD a2 (spDn IntKind.i16 2 a2 (spDn IntKind.i32 4 a2 (a1, a3)).snd).snd).snd).snd).snd).snd.snd, ()), ())) else none else some (Out.ret ((((spDn IntKind.i32 4 a2 (a1, a3)).fst, (spDn IntKind.i16 2 a2 (spDn IntKind.i32 4 a2 (a1, a3)).snd).fst, (spNsD a2 (spDn IntKind.i16 2 a2 (spDn IntKind.i32 4 a2 (a1, a3)).snd).snd).fst, (spDn IntKind.i64 8 a2 (spNsD a2 (spDn IntKind.i16 2 a2 (spDn IntKind.i32 4 a2 (a1, a3)).snd).snd).snd).fst, (spDn IntKind.i64 8 a2 (spDn IntKind.i64 8 a2 (spNsD a2 (spDn IntKind.i16 2 a2 (spDn IntKind.i32 4 a2 (a1, a3)).snd).snd).snd).snd).fst, 0, ()), ()), ((), ()), ((), a0, (spDn IntKind.i64 8 a2 (spDn IntKind.i64 8 a2 (spNsD a2 (spDn IntKind.i16 2 a2 (spDn IntKind.i32 4 a2 (a1, a3)).snd).snd).snd).snd).snd.fst, ()), (a2, (spDn IntKind.i64 8 a2 (spDn IntKind.i64 8 a2 (spNsD a2 (spDn IntKind.i16 2 a2 (spDn IntKind.i32 4 a2 (a1, a3)).snd).snd).snd).snd).snd.snd, ()), ())) else none else none else bif spDHas a0 3 3 (spNsD a2 (spDn IntKind.i16 2 a2 (spDn IntKind.i32 4 a2 (a1, a3)).snd).snd).snd.fst then bif spDok a2 (spNsD a2 (spDn IntKind.i16 2 a2 (spDn IntKind.i32 4 a2 (a1, a3)).snd).snd).snd.snd then some (Out.ret ((((spDn IntKind.i32 4 a2 (a1, a3)).fst, (spDn IntKind.i16 2 a2 (spDn IntKind.i32 4 a2 (a1, a3)).snd).fst, (spNsD a2 (spDn IntKind.i16 2 a2 (spDn IntKind.i32 4 a2 (a1, a3)).snd).snd).fst, 0, 0, (spDn IntKind.i32 4 a2 (spNsD a2 (spDn IntKind.i16 2 a2 (spDn IntKind.i32 4 a2 (a1, a3)).snd).snd).snd).fst, ()), ()), ((), ()), ((), a0, (spDn IntKind.i32 4 a2 (spNsD a2 (spDn IntKind.i16 2 a2 (spDn IntKind.i32 4 a2 (a1, a3)).snd).snd).snd).snd.fst, ()), (a2, (spDn IntKind.i32 4 a2 (spNsD a2 (spDn IntKind.i16 2 a2 (spDn IntKind.i32 4 a2 (a1, a3)).snd).snd).snd).snd.snd, ()), ())) else none else some (Out.ret ((((spDn IntKind.i32 4 a2 (a1, a3)).fst, (spDn IntKind.i16 2 a2 (spDn IntKind.i32 4 a2 (a1, a3)).snd).fst, (spNsD a2 (spDn IntKind.i16 2 a2 (spDn IntKind.i32 4 a2 (a1, a3)).snd).snd).fst, 0, 0, 0, ()), ()), ((), ()), ((), a0, (spNsD a2 (spDn IntKind.i16 2 a2 (spDn IntKind.i32 4 a2 (a1, a3)).snd).snd).snd.fst, ()), (a2, (spNsD a2 (spDn IntKind.i16 2 a2 (spDn IntKind.i32 4 a2 (a1, a3)).snd).snd).snd.snd, ()), ())) else none else bif spDHas a0 1 3 (spDn IntKind.i16 2 a2 (spDn IntKind.i32 4 a2 (a1, a3)).snd).snd.fst then bif spDok a2 (spDn IntKind.i16 2 a2 (spDn IntKind.i32 4 a2 (a1, a3)).snd).snd.snd then bif spDok a2 (spDn IntKind.i64 8 a2 (spDn IntKind.i16 2 a2 (spDn IntKind.i32 4 a2 (a1, a3)).snd).snd).snd.snd then bif spDHas a0 3 3 (spDn IntKind.i64 8 a2 (spDn IntKind.i64 8 a2 (spDn IntKind.i16 2 a2 (spDn IntKind.i32 4 a2 (a1, a3)).snd).snd).snd).snd.fst then bif spDok a2 (spDn IntKind.i64 8 a2 (spDn IntKind.i64 8 a2 (spDn IntKind.i16 2 a2 (spDn IntKind.i32 4 a2 (a1, a3)).snd).snd).snd).snd.snd then some (Out.ret ((((spDn IntKind.i32 4 a2 (a1, a3)).fst, (spDn IntKind.i16 2 a2 (spDn IntKind.i32 4 a2 (a1, a3)).snd).fst, [], (spDn IntKind.i64 8 a2 (spDn IntKind.i16 2 a2 (spDn IntKind.i32 4 a2 (a1, a3)).snd).snd).fst, (spDn IntKind.i64 8 a2 (spDn IntKind.i64 8 a2 (spDn IntKind.i16 2 a2 (spDn IntKind.i32 4 a2 (a1, a3)).snd).snd).snd).fst, (spDn IntKind.i32 4 a2 (spDn IntKind.i64 8 a2 (spDn IntKind.i64 8 a2 (spDn IntKind.i16 2 a2 (spDn IntKind.i32 4 a2 (a1, a3)).snd).snd).snd).snd).fst, ()), ()), ((), ()), ((), a0, (spDn IntKind.i32 4 a2 (spDn IntKind.i64 8 a2 (spDn IntKind.i64 8 a2 (spDn IntKind.i16 2 a2 (spDn IntKind.i32 4 a2 (a1, a3)).snd).snd).snd).snd).snd.fst, ()), (a2, (spDn IntKind.i32 4 a2 (spDn IntKind.i64 8 a2 (spDn IntKind.i64 8 a2 (spDn IntKind.i16 2 a2 (spDn IntKind.i32 4 a2 (a1, a3)).snd).snd).snd).snd).snd.snd, ()), ())) else none else some (Out.ret ((((spDn IntKind.i32 4 a2 (a1, a3)).fst, (spDn IntKind.i16 2 a2 (spDn IntKind.i32 4 a2 (a1, a3)).snd).fst, [], (spDn IntKind.i64 8 a2 (spDn IntKind.i16 2 a2 (spDn IntKind.i32 4 a2 (a1, a3)).snd).snd).fst, (spDn IntKind.i64 8 a2 (spDn IntKind.i64 8 a2 (spDn IntKind.i16 2 a2 (spDn IntKind.i32 4 a2 (a1, a3)).snd).snd).snd).fst, 0, ()), ()), ((), ()), ((), a0, (spDn IntKind.i64 8 a2 (spDn IntKind.i64 8 a2 (spDn IntKind.i16 2 a2 (spDn IntKind.i32 4 a2 (a1, a3)).snd).snd).snd).snd.fst, ()), (a2, (spDn IntKind.i64 8 a2 (spDn IntKind.i64 8 a2 (spDn IntKind.i16 2 a2 (spDn IntKind.i32 4 a2 (a1, a3)).snd).snd).snd).snd.snd, ()), ())) else none else none else bif spDHas a0 3 3 (spDn IntKind.i16 2 a2 (spDn IntKind.i32 4 a2 (a1, a3)).snd).snd.fst then bif spDok a2 (spDn IntKind.i16 2 a2 (spDn IntKind.i32 4 a2 (a1, a3)).snd).snd.snd then some (Out.ret ((((spDn IntKind.i32 4 a2 (a1, a3)).fst, (spDn IntKind.i16 2 a2 (spDn IntKind.i32 4 a2 (a1, a3)).snd).fst, [], 0, 0, (spDn IntKind.i32 4 a2 (spDn IntKind.i16 2 a2 (spDn IntKind.i32 4 a2 (a1, a3)).snd).snd).fst, ()), ()), ((), ()), ((), a0, (spDn IntKind.i32 4 a2 (spDn IntKind.i16 2 a2 (spDn IntKind.i32 4 a2 (a1, a3)).snd).snd).snd.fst, ()), (a2, (spDn IntKind.i32 4 a2 (spDn IntKind.i16 2 a2 (spDn IntKind.i32 4 a2 (a1, a3)).snd).snd).snd.snd, ()), ())) else none else some (Out.ret ((((spDn IntKind.i32 4 a2 (a1, a3)).fst, (spDn IntKind.i16 2 a2 (spDn IntKind.i32 4 a2 (a1, a3)).snd).fst, [], 0, 0, 0, ()), ()), ((), ()), ((), a0, (spDn IntKind.i16 2 a2 (spDn IntKind.i32 4 a2 (a1, a3)).snd).snd.fst, ()), (a2, (spDn IntKind.i16 2 a2 (spDn IntKind.i32 4 a2 (a1, a3)).snd).snd.snd, ()), ())) else none else none
theorem rundorPart (a0 : Int) (a1 : Int) (a2 : List Int) (a3 : Int) : Io.run tt hddorPart dr lpdorPart iodorPart Go.Proofs.Tryz.f86 (((), ()), ((), ()), ((), a0, a1, ()), (a2, a3, ()), ()) = bodydorPart a0 a1 a2 a3 := by kernel_rfl
theorem okdorPart : HcOk prog 86 (ioHd iodorPart FdorPart) := by
  refine fn_sound (n := 400) hm (cs := csdorPart) (.cons okdI16 (.cons okdI32 (.cons okdI64 (.cons okdNs (.cons okdHas .nil))))) (lp := lpdorPart) (fn := Go.Proofs.Tryz.f86) (by kernel_rfl) (by kernel_rfl) (by kernel_rfl) iodorPart (.done (by kernel_rfl)) FdorPart ?_
  rintro ⟨⟨⟨⟩, ⟨⟩⟩, ⟨⟨⟩, ⟨⟩⟩, ⟨⟨⟩, (v : Int), (e : Int), ⟨⟩⟩, ⟨(b : List Int), (p : Int), ⟨⟩⟩, ⟨⟩⟩ out hw ho
  obtain ⟨hg, ho⟩ := Tr.guard ho
  have hg : spDok b p = true := hg
  cases ho
  refine (rundorPart v e b p).trans ?_
  unfold bodydorPart
  show _ = some (Out.ret (((sporPD v b (e, p)).1, ()), decOut1 v b (sporPD v b (e, p)).2))
  unfold sporPD
  have hg : spDok b ((e, p) : DeS).2 = true := hg
  refine (bif_true hg _ _).trans ?_
  have g0 : spDok b (spDn .i32 4 b ((e, p) : DeS)).2.2 = true := spDn_ok .i32 4 (s := ((e, p) : DeS)) hg
  refine (bif_true g0 _ _).trans ?_
  have g1 : spDok b (spDn .i16 2 b (spDn .i32 4 b ((e, p) : DeS)).2).2.2 = true := spDn_ok .i16 2 (s := (spDn .i32 4 b ((e, p) : DeS)).2) g0
  show (bif spDHas v 0 0 (spDn .i16 2 b (spDn .i32 4 b ((e, p) : DeS)).2).2.1 then _ else _) = _
  cases h2 : spDHas v 0 0 (spDn .i16 2 b (spDn .i32 4 b ((e, p) : DeS)).2).2.1
  · have e2 : spDHasNs v 0 0 b (spDn .i16 2 b (spDn .i32 4 b ((e, p) : DeS)).2).2 = ([], (spDn .i16 2 b (spDn .i32 4 b ((e, p) : DeS)).2).2) := by unfold spDHasNs; rw [if_neg (by rw [h2]; decide)]
    rw [e2]
    show (bif spDHas v 1 3 (spDn .i16 2 b (spDn .i32 4 b ((e, p) : DeS)).2).2.1 then _ else _) = _
    cases hf3 : spDHas v 1 3 (spDn .i16 2 b (spDn .i32 4 b ((e, p) : DeS)).2).2.1
    · have ef3 : spDHasN .i64 8 v 1 3 b (spDn .i16 2 b (spDn .i32 4 b ((e, p) : DeS)).2).2 = (0, (spDn .i16 2 b (spDn .i32 4 b ((e, p) : DeS)).2).2) := by unfold spDHasN; rw [if_neg (by rw [hf3]; decide)]
      rw [ef3]
      have eff4 : spDHasN .i64 8 v 1 3 b (spDn .i16 2 b (spDn .i32 4 b ((e, p) : DeS)).2).2 = (0, (spDn .i16 2 b (spDn .i32 4 b ((e, p) : DeS)).2).2) := by unfold spDHasN; rw [if_neg (by rw [hf3]; decide)]
      rw [eff4]
      show (bif spDHas v 3 3 (spDn .i16 2 b (spDn .i32 4 b ((e, p) : DeS)).2).2.1 then _ else _) = _
      cases hff5 : spDHas v 3 3 (spDn .i16 2 b (spDn .i32 4 b ((e, p) : DeS)).2).2.1
      · have eff5 : spDHasN .i32 4 v 3 3 b (spDn .i16 2 b (spDn .i32 4 b ((e, p) : DeS)).2).2 = (0, (spDn .i16 2 b (spDn .i32 4 b ((e, p) : DeS)).2).2) := by unfold spDHasN; rw [if_neg (by rw [hff5]; decide)]
        rw [eff5]
        rfl
      · have eff5 : spDHasN .i32 4 v 3 3 b (spDn .i16 2 b (spDn .i32 4 b ((e, p) : DeS)).2).2 = spDn .i32 4 b (spDn .i16 2 b (spDn .i32 4 b ((e, p) : DeS)).2).2 := by unfold spDHasN; rw [if_pos hff5]
        rw [eff5]
        refine (bif_true g1 _ _).trans ?_
        have gff5 : spDok b (spDn .i32 4 b (spDn .i16 2 b (spDn .i32 4 b ((e, p) : DeS)).2).2).2.2 = true := spDn_ok .i32 4 (s := (spDn .i16 2 b (spDn .i32 4 b ((e, p) : DeS)).2).2) g1
        rfl
    · have ef3 : spDHasN .i64 8 v 1 3 b (spDn .i16 2 b (spDn .i32 4 b ((e, p) : DeS)).2).2 = spDn .i64 8 b (spDn .i16 2 b (spDn .i32 4 b ((e, p) : DeS)).2).2 := by unfold spDHasN; rw [if_pos hf3]
      rw [ef3]
      refine (bif_true g1 _ _).trans ?_
      have gf3 : spDok b (spDn .i64 8 b (spDn .i16 2 b (spDn .i32 4 b ((e, p) : DeS)).2).2).2.2 = true := spDn_ok .i64 8 (s := (spDn .i16 2 b (spDn .i32 4 b ((e, p) : DeS)).2).2) g1
      have eft4 : spDHasN .i64 8 v 1 3 b (spDn .i64 8 b (spDn .i16 2 b (spDn .i32 4 b ((e, p) : DeS)).2).2).2 = spDn .i64 8 b (spDn .i64 8 b (spDn .i16 2 b (spDn .i32 4 b ((e, p) : DeS)).2).2).2 := spDHasN_in (spDHas_rng hf3) _
      rw [eft4]
      refine (bif_true gf3 _ _).trans ?_
      have gft4 : spDok b (spDn .i64 8 b (spDn .i64 8 b (spDn .i16 2 b (spDn .i32 4 b ((e, p) : DeS)).2).2).2).2.2 = true := spDn_ok .i64 8 (s := (spDn .i64 8 b (spDn .i16 2 b (spDn .i32 4 b ((e, p) : DeS)).2).2).2) gf3
      show (bif spDHas v 3 3 (spDn .i64 8 b (spDn .i64 8 b (spDn .i16 2 b (spDn .i32 4 b ((e, p) : DeS)).2).2).2).2.1 then _ else _) = _
      cases hft5 : spDHas v 3 3 (spDn .i64 8 b (spDn .i64 8 b (spDn .i16 2 b (spDn .i32 4 b ((e, p) : DeS)).2).2).2).2.1
      · have eft5 : spDHasN .i32 4 v 3 3 b (spDn .i64 8 b (spDn .i64 8 b (spDn .i16 2 b (spDn .i32 4 b ((e, p) : DeS)).2).2).2).2 = (0, (spDn .i64 8 b (spDn .i64 8 b (spDn .i16 2 b (spDn .i32 4 b ((e, p) : DeS)).2).2).2).2) := by unfold spDHasN; rw [if_neg (by rw [hft5]; decide)]
        rw [eft5]
        rfl
      · have eft5 : spDHasN .i32 4 v 3 3 b (spDn .i64 8 b (spDn .i64 8 b (spDn .i16 2 b (spDn .i32 4 b ((e, p) : DeS)).2).2).2).2 = spDn .i32 4 b (spDn .i64 8 b (spDn .i64 8 b (spDn .i16 2 b (spDn .i32 4 b ((e, p) : DeS)).2).2).2).2 := by unfold spDHasN; rw [if_pos hft5]
        rw [eft5]
        refine (bif_true gft4 _ _).trans ?_
        have gft5 : spDok b (spDn .i32 4 b (spDn .i64 8 b (spDn .i64 8 b (spDn .i16 2 b (spDn .i32 4 b ((e, p) : DeS)).2).2).2).2).2.2 = true := spDn_ok .i32 4 (s := (spDn .i64 8 b (spDn .i64 8 b (spDn .i16 2 b (spDn .i32 4 b ((e, p) : DeS)).2).2).2).2) gft4
        rfl
  · have e2 : spDHasNs v 0 0 b (spDn .i16 2 b (spDn .i32 4 b ((e, p) : DeS)).2).2 = spNsD b (spDn .i16 2 b (spDn .i32 4 b ((e, p) : DeS)).2).2 := by unfold spDHasNs; rw [if_pos h2]
    rw [e2]
    refine (bif_true g1 _ _).trans ?_
    have g2 : spDok b (spNsD b (spDn .i16 2 b (spDn .i32 4 b ((e, p) : DeS)).2).2).2.2 = true := spNsD_ok (s := (spDn .i16 2 b (spDn .i32 4 b ((e, p) : DeS)).2).2) g1
    show (bif spDHas v 1 3 (spNsD b (spDn .i16 2 b (spDn .i32 4 b ((e, p) : DeS)).2).2).2.1 then _ else _) = _
    cases ht3 : spDHas v 1 3 (spNsD b (spDn .i16 2 b (spDn .i32 4 b ((e, p) : DeS)).2).2).2.1
    · have et3 : spDHasN .i64 8 v 1 3 b (spNsD b (spDn .i16 2 b (spDn .i32 4 b ((e, p) : DeS)).2).2).2 = (0, (spNsD b (spDn .i16 2 b (spDn .i32 4 b ((e, p) : DeS)).2).2).2) := by unfold spDHasN; rw [if_neg (by rw [ht3]; decide)]
      rw [et3]
      have etf4 : spDHasN .i64 8 v 1 3 b (spNsD b (spDn .i16 2 b (spDn .i32 4 b ((e, p) : DeS)).2).2).2 = (0, (spNsD b (spDn .i16 2 b (spDn .i32 4 b ((e, p) : DeS)).2).2).2) := by unfold spDHasN; rw [if_neg (by rw [ht3]; decide)]
      rw [etf4]
      show (bif spDHas v 3 3 (spNsD b (spDn .i16 2 b (spDn .i32 4 b ((e, p) : DeS)).2).2).2.1 then _ else _) = _
      cases htf5 : spDHas v 3 3 (spNsD b (spDn .i16 2 b (spDn .i32 4 b ((e, p) : DeS)).2).2).2.1
      · have etf5 : spDHasN .i32 4 v 3 3 b (spNsD b (spDn .i16 2 b (spDn .i32 4 b ((e, p) : DeS)).2).2).2 = (0, (spNsD b (spDn .i16 2 b (spDn .i32 4 b ((e, p) : DeS)).2).2).2) := by unfold spDHasN; rw [if_neg (by rw [htf5]; decide)]
        rw [etf5]
        rfl
      · have etf5 : spDHasN .i32 4 v 3 3 b (spNsD b (spDn .i16 2 b (spDn .i32 4 b ((e, p) : DeS)).2).2).2 = spDn .i32 4 b (spNsD b (spDn .i16 2 b (spDn .i32 4 b ((e, p) : DeS)).2).2).2 := by unfold spDHasN; rw [if_pos htf5]
        rw [etf5]
        refine (bif_true g2 _ _).trans ?_
        have gtf5 : spDok b (spDn .i32 4 b (spNsD b (spDn .i16 2 b (spDn .i32 4 b ((e, p) : DeS)).2).2).2).2.2 = true := spDn_ok .i32 4 (s := (spNsD b (spDn .i16 2 b (spDn .i32 4 b ((e, p) : DeS)).2).2).2) g2
        rfl
    · have et3 : spDHasN .i64 8 v 1 3 b (spNsD b (spDn .i16 2 b (spDn .i32 4 b ((e, p) : DeS)).2).2).2 = spDn .i64 8 b (spNsD b (spDn .i16 2 b (spDn .i32 4 b ((e, p) : DeS)).2).2).2 := by unfold spDHasN; rw [if_pos ht3]
      rw [et3]
      refine (bif_true g2 _ _).trans ?_
      have gt3 : spDok b (spDn .i64 8 b (spNsD b (spDn .i16 2 b (spDn .i32 4 b ((e, p) : DeS)).2).2).2).2.2 = true := spDn_ok .i64 8 (s := (spNsD b (spDn .i16 2 b (spDn .i32 4 b ((e, p) : DeS)).2).2).2) g2
      have ett4 : spDHasN .i64 8 v 1 3 b (spDn .i64 8 b (spNsD b (spDn .i16 2 b (spDn .i32 4 b ((e, p) : DeS)).2).2).2).2 = spDn .i64 8 b (spDn .i64 8 b (spNsD b (spDn .i16 2 b (spDn .i32 4 b ((e, p) : DeS)).2).2).2).2 := spDHasN_in (spDHas_rng ht3) _
      rw [ett4]
      refine (bif_true gt3 _ _).trans ?_
      have gtt4 : spDok b (spDn .i64 8 b (spDn .i64 8 b (spNsD b (spDn .i16 2 b (spDn .i32 4 b ((e, p) : DeS)).2).2).2).2).2.2 = true := spDn_ok .i64 8 (s := (spDn .i64 8 b (spNsD b (spDn .i16 2 b (spDn .i32 4 b ((e, p) : DeS)).2).2).2).2) gt3
      show (bif spDHas v 3 3 (spDn .i64 8 b (spDn .i64 8 b (spNsD b (spDn .i16 2 b (spDn .i32 4 b ((e, p) : DeS)).2).2).2).2).2.1 then _ else _) = _
      cases htt5 : spDHas v 3 3 (spDn .i64 8 b (spDn .i64 8 b (spNsD b (spDn .i16 2 b (spDn .i32 4 b ((e, p) : DeS)).2).2).2).2).2.1
      · have ett5 : spDHasN .i32 4 v 3 3 b (spDn .i64 8 b (spDn .i64 8 b (spNsD b (spDn .i16 2 b (spDn .i32 4 b ((e, p) : DeS)).2).2).2).2).2 = (0, (spDn .i64 8 b (spDn .i64 8 b (spNsD b (spDn .i16 2 b (spDn .i32 4 b ((e, p) : DeS)).2).2).2).2).2) := by unfold spDHasN; rw [if_neg (by rw [htt5]; decide)]
        rw [ett5]
        rfl
      · have ett5 : spDHasN .i32 4 v 3 3 b (spDn .i64 8 b (spDn .i64 8 b (spNsD b (spDn .i16 2 b (spDn .i32 4 b ((e, p) : DeS)).2).2).2).2).2 = spDn .i32 4 b (spDn .i64 8 b (spDn .i64 8 b (spNsD b (spDn .i16 2 b (spDn .i32 4 b ((e, p) : DeS)).2).2).2).2).2 := by unfold spDHasN; rw [if_pos htt5]
        rw [ett5]
        refine (bif_true gtt4 _ _).trans ?_
        have gtt5 : spDok b (spDn .i32 4 b (spDn .i64 8 b (spDn .i64 8 b (spNsD b (spDn .i16 2 b (spDn .i32 4 b ((e, p) : DeS)).2).2).2).2).2).2.2 = true := spDn_ok .i32 4 (s := (spDn .i64 8 b (spDn .i64 8 b (spNsD b (spDn .i16 2 b (spDn .i32 4 b ((e, p) : DeS)).2).2).2).2).2) gtt4
        rfl
@[irreducible] noncomputable def sporPsD (v : Int) (b : List Int) (s : DeS) : List torPart.den × DeS := spList (sporPD v b) b s
theorem sporPsD_ok {v : Int} {b : List Int} {s : DeS} (h : spDok b s.2 = true) : spDok b (sporPsD v b s).2.2 = true := by
  unfold sporPsD
  exact spList_ok (fun s h => sporPD_ok h) h
abbrev iodorParts : Io := ⟨[.ptr 0 0, .fnc 86 false [2]], oDecC, [], [.dat (.sl 57 torPart) false false], none⟩
def FdorParts (d : iodorParts.In) : Tr iodorParts.Res := .ite (spDok d.2.2.1.1 d.2.2.1.2.1) (.ret (.ret (((sporPsD d.2.1.2.1 d.2.2.1.1 (decStC d.2)).1, ()), decOutC d.2.1.2.1 d.2.2.1.1 (sporPsD d.2.1.2.1 d.2.2.1.1 (decStC d.2)).2))) .no
abbrev csdorParts : List (Nat × Hc) := [(81, ioHd iodI32 FdI32), (86, ioHd iodorPart FdorPart)]
def hddorParts : Hd := hdT csdorParts
abbrev lodorParts_10 : Lo := ⟨⟨[.one (.ptr 0 0), .one (.fnp 86 false [2]), .any, .any, .any, .one (.hol (.int IntKind.i32)), .one (.onl 57 torPart 19), .one (.hol (.int IntKind.i32)), .any, .any, .any, .any, .any, .any, .any, .any, .any, .any, .any, .any, .any, .any, .any, .any, .any, .any, .any, .any, .any, .any, .any, .any, .any, .any, .any, .any, .any, .any, .any, .any, .any, .any, .any, .any, .any, .any], [some [.ptr 1 0, .hol (.int IntKind.i64), .hol (.int IntKind.i64)], some [.hol (.sl 5 (Ty.int IntKind.u8)), .hol (.int IntKind.i64)], some [.ptr 0 0]]⟩, [(.exit 1, ⟨[.any, .any, .any, .any, .any, .any, .one (.onl 57 torPart 19), .any, .any, .any, .any, .any, .any, .any, .any, .any, .any, .any, .any, .any, .any, .any, .any, .any, .any, .any, .any, .any, .any, .any, .any, .any, .any, .any, .any, .any, .any, .any, .any, .any, .any, .any, .any, .any, .any, .any], [some [.ptr 1 0, .hol (.int IntKind.i64), .hol (.int IntKind.i64)], some [.hol (.sl 5 (Ty.int IntKind.u8)), .hol (.int IntKind.i64)], some [.ptr 0 0]]⟩)]⟩
-- FdorParts_10 : lodorParts_10.st.den → Tr (DenX lodorParts_10.xs) | ((h4, (h5, (h6, ()))), ((h7, (h8, ())), ((h9, (h10, ())), ((), ()))))
def FdorParts_10 (d : lodorParts_10.st.den) : Tr (DenX lodorParts_10.xs) :=
  .ite (decide (d.1.2.2.1 = 0) && (decide (d.1.2.1.length = 0) && (spDok d.2.2.1.1 d.2.2.1.2.1 && (decide (d.1.1 ≤ (16 : Int)) || decide (d.2.1.2.1 ≠ 0))))) (.ret (.ret ((), (((spRep (sporPD d.2.1.1 d.2.2.1.1) d.1.1.toNat (d.2.1.2.1, d.2.2.1.2.1)).1, ()), decOutB d.2.1.1 d.2.2.1.1 (spRep (sporPD d.2.1.1 d.2.2.1.1) d.1.1.toNat (d.2.1.2.1, d.2.2.1.2.1)).2)))) .no
def lpdorParts : Lp := lpT [(10, loHd lodorParts_10 FdorParts_10)]
def stepdorParts_10 {R : Type} (h4 : Int) (h5 : List torPart.den) (h6 : Int) (h7 : Int) (h8 : Int) (h9 : List Int) (h10 : Int) (next : Int → List torPart.den → Int → Int → Int → List Int → Int → Option R) (out : DenX lodorParts_10.xs → Option R) : Option R := bif decide (h6 < h4) then bif h8 == 0 then bif spDok h9 h10 then bif decide (h5.length + 1 ≤ 4294967296) then next (h4) (h5 ++ [(sporPD h7 h9 (h8, h10)).fst]) (IntKind.i32.wrap (h6 + 1)) (h7) ((sporPD h7 h9 (h8, h10)).snd.fst) (h9) ((sporPD h7 h9 (h8, h10)).snd.snd) else none else none else out (.ret ((), ((h5, ()), ((h7, (h8, ())), ((h9, (h10, ())), ((), ())))))) else out (.ret ((), ((h5, ()), ((h7, (h8, ())), ((h9, (h10, ())), ((), ()))))))
def itdorParts_10 (n : Nat) (h4 : Int) (h5 : List torPart.den) (h6 : Int) (h7 : Int) (h8 : Int) (h9 : List Int) (h10 : Int) : Option (DenX lodorParts_10.xs) := lpN tt hddorParts dr lpdorParts 3 Go.Proofs.Tryz.f85 (topL Go.Proofs.Tryz.f85 0) n (lodorParts_10.st.mk' ((h4, (h5, (h6, ()))), ((h7, (h8, ())), ((h9, (h10, ())), ((), ()))))) (decX lodorParts_10.xs)
theorem sldorParts_10 (n : Nat) (h4 : Int) (h5 : List torPart.den) (h6 : Int) (h7 : Int) (h8 : Int) (h9 : List Int) (h10 : Int) : itdorParts_10 (n + 1) h4 h5 h6 h7 h8 h9 h10 = stepdorParts_10 h4 h5 h6 h7 h8 h9 h10 (itdorParts_10 n) some := by kernel_rfl
theorem loopdorParts (n v : Int) (b : List Int) : ∀ (k j : Nat) (xs : List torPart.den) (s : DeS), n.toNat < j + k → j ≤ n.toNat → xs.length = j → spDok b s.2 = true → (s.1 = 0 → n ≤ 16) →
    itdorParts_10 k n xs j v s.1 b s.2 = some (.ret ((), ((xs ++ (spRep (sporPD v b) (n.toNat - j) s).1, ()), decOutB v b (spRep (sporPD v b) (n.toNat - j) s).2))) := by
  intro k
  induction k with
  | zero => intro j xs s h; omega
  | succ k ih =>
    intro j xs s h1 h2 h3 h4 h5
    rw [sldorParts_10]
    unfold stepdorParts_10
    by_cases hj : (j : Int) < n
    · refine (bif_true (by simpa using hj) _ _).trans ?_
      obtain ⟨m, hm⟩ : ∃ m, n.toNat - j = m + 1 := ⟨n.toNat - j - 1, by omega⟩
      rw [hm]
      by_cases he : s.1 = 0
      · refine (bif_true (by simpa using he) _ _).trans ?_
        have hn := h5 he
        refine (bif_true h4 _ _).trans ?_
        refine (bif_true (decide_eq_true (show xs.length + 1 ≤ 4294967296 by omega)) _ _).trans ?_
        have hw : IntKind.i32.wrap ((j : Int) + 1) = ((j + 1 : Nat) : Int) := wrap_id (by simp [inR, IntKind.min, IntKind.max, IntKind.signed, IntKind.bits]; omega)
        rw [hw]
        refine (ih (j + 1) (xs ++ [(sporPD v b s).1]) (sporPD v b s).2 (by omega) (by omega) (by simp [h3]) (sporPD_ok h4) (fun _ => hn)).trans ?_
        rw [show n.toNat - (j + 1) = m by omega, spRep, if_pos he]
        simp
      · refine (bif_false (by simpa using he) _ _).trans ?_
        rw [spRep, if_neg he]
        simp
    · refine (bif_false (by simpa using hj) _ _).trans ?_
      rw [show n.toNat - j = 0 by omega, spRep]
      simp
def bodydorParts (a0 : Int) (a1 : Int) (a2 : List Int) (a3 : Int) : Option iodorParts.Res := bif spDok a2 a3 then bif (spDn IntKind.i32 4 a2 (a1, a3)).snd.fst != 0 then (FdorParts_10 (((spDn IntKind.i32 4 a2 (a1, a3)).fst, ([], (0, ()))), ((a0, ((spDn IntKind.i32 4 a2 (a1, a3)).snd.fst, ())), ((a2, ((spDn IntKind.i32 4 a2 (a1, a3)).snd.snd, ())), ((), ()))))).run fun y => match y with | .ret ((), ((x28, ()), (x29, x30, ()), (x31, x32, ()), (), ())) => (some (Out.ret ((x28, ()), ((), x29, x30, ()), (x31, x32, ()), ((), ()), ()))) else bif decide ((spDn IntKind.i32 4 a2 (a1, a3)).fst < 0) then (FdorParts_10 (((spDn IntKind.i32 4 a2 (a1, a3)).fst, ([], (0, ()))), ((a0, (5, ())), ((a2, ((spDn IntKind.i32 4 a2 (a1, a3)).snd.snd, ())), ((), ()))))).run fun y => match y with | .ret ((), ((x40, ()), (x41, x42, ()), (x43, x44, ()), (), ())) => (some (Out.ret ((x40, ()), ((), x41, x42, ()), (x43, x44, ()), ((), ()), ()))) else bif decide (16 < (spDn IntKind.i32 4 a2 (a1, a3)).fst) then (FdorParts_10 (((spDn IntKind.i32 4 a2 (a1, a3)).fst, ([], (0, ()))), ((a0, (9, ())), ((a2, ((spDn IntKind.i32 4 a2 (a1, a3)).snd.snd, ())), ((), ()))))).run fun y => match y with | .ret ((), ((x52, ()), (x53, x54, ()), (x55, x56, ()), (), ())) => (some (Out.ret ((x52, ()), ((), x53, x54, ()), (x55, x56, ()), ((), ()), ()))) else (FdorParts_10 (((spDn IntKind.i32 4 a2 (a1, a3)).fst, ([], (0, ()))), ((a0, ((spDn IntKind.i32 4 a2 (a1, a3)).snd.fst, ())), ((a2, ((spDn IntKind.i32 4 a2 (a1, a3)).snd.snd, ())), ((), ()))))).run fun y => match y with | .ret ((), ((x64, ()), (x65, x66, ()), (x67, x68, ()), (), ())) => (some (Out.ret ((x64, ()), ((), x65, x66, ()), (x67, x68, ()), ((), ()), ()))) else none
theorem rundorParts (a0 : Int) (a1 : Int) (a2 : List Int) (a3 : Int) : Io.run tt hddorParts dr lpdorParts iodorParts Go.Proofs.Tryz.f85 (((), (), ()), ((), a0, a1, ()), (a2, a3, ()), ((), ()), ()) = bodydorParts a0 a1 a2 a3 := by kernel_rfl
theorem okdorParts : HcOk prog 85 (ioHd iodorParts FdorParts) := by
  refine fn_sound (n := 400) hm (cs := csdorParts) (.cons okdI32 (.cons okdorPart .nil)) (lp := lpdorParts) (fn := Go.Proofs.Tryz.f85) (by kernel_rfl) (by kernel_rfl) (by kernel_rfl) iodorParts (.step (h0 := loHd lodorParts_10 FdorParts_10) (by kernel_rfl) (loop_sound (n := 400) hm (cs := csdorParts) (.cons okdI32 (.cons okdorPart .nil)) (lp := lpdorParts) (fn := Go.Proofs.Tryz.f85) (.done (by kernel_rfl)) lodorParts_10 FdorParts_10 ?_) (.done (by kernel_rfl))) FdorParts ?_
  · rintro ⟨⟨(n : Int), (xs : List torPart.den), (i : Int), ⟨⟩⟩, ⟨⟨(v : Int), (e : Int), ⟨⟩⟩, ⟨(b : List Int), (p : Int), ⟨⟩⟩, ⟨⟨⟩, ⟨⟩⟩⟩⟩ y hw hy
    obtain ⟨hg, hy⟩ := Tr.guard hy
    simp only [Bool.and_eq_true, decide_eq_true_eq, Bool.or_eq_true] at hg
    obtain ⟨h1, h2, h3, h4⟩ := hg
    have h1 : i = 0 := h1
    have h2 : xs = [] := List.eq_nil_of_length_eq_zero h2
    have h3 : spDok b p = true := h3
    have h4 : n ≤ 16 ∨ e ≠ 0 := h4
    subst h1
    subst h2
    refine ⟨n.toNat + 1, (loopdorParts n v b (n.toNat + 1) 0 [] (e, p) (by omega) (by omega) rfl h3 (fun he => h4.resolve_right (fun h => h he))).trans ?_⟩
    rw [← hy]; rfl
  · rintro ⟨⟨⟨⟩, ⟨⟩, ⟨⟩⟩, ⟨⟨⟩, (v : Int), (e : Int), ⟨⟩⟩, ⟨(b : List Int), (p : Int), ⟨⟩⟩, ⟨⟨⟩, ⟨⟩⟩, ⟨⟩⟩ out hw ho
    obtain ⟨hg, ho⟩ := Tr.guard ho
    have hg : spDok b p = true := hg
    cases ho
    refine (rundorParts v e b p).trans ?_
    unfold bodydorParts
    show _ = some (Out.ret (((sporPsD v b (e, p)).1, ()), decOutC v b (sporPsD v b (e, p)).2))
    unfold sporPsD spList
    refine (bif_true hg _ _).trans ?_
    have hr : spDok b (spDn .i32 4 b (e, p)).2.2 = true := spDn_ok .i32 4 (s := (e, p)) hg
    generalize spDn .i32 4 b (e, p) = r at hr ⊢
    obtain ⟨n, e1, q⟩ := r
    have hr : spDok b q = true := hr
    have key : ∀ e' : Int, (e' = 0 → n ≤ 16) → FdorParts_10 ((n, ([], (0, ()))), ((v, (e', ())), ((b, (q, ())), ((), ())))) = .ite true (.ret (.ret ((), (((spRep (sporPD v b) n.toNat (e', q)).1, ()), decOutB v b (spRep (sporPD v b) n.toNat (e', q)).2)))) .no := by
      intro e' he
      refine congrArg (fun c => Tr.ite c _ _) ?_
      show (decide ((0 : Int) = 0) && (decide (([] : List torPart.den).length = 0) && (spDok b q && (decide (n ≤ 16) || decide (e' ≠ 0))))) = true
      rw [hr]
      by_cases h : e' = 0
      · simp [he h]
      · simp [h]
    unfold spLen
    show (bif e1 != 0 then _ else _) = _
    by_cases h1 : e1 = 0
    · refine (bif_false (by simpa using h1) _ _).trans ?_
      show (bif decide (n < 0) then _ else _) = _
      rw [if_pos h1]
      by_cases h2 : n < 0
      · refine (bif_true (by simpa using h2) _ _).trans ?_
        show (FdorParts_10 ((n, ([], (0, ()))), ((v, (5, ())), ((b, (q, ())), ((), ()))))).run _ = _
        rw [key 5 (by omega), if_pos h2]
        rfl
      · refine (bif_false (by simpa using h2) _ _).trans ?_
        show (bif decide (16 < n) then _ else _) = _
        rw [if_neg h2]
        by_cases h3 : 16 < n
        · refine (bif_true (by simpa using h3) _ _).trans ?_
          show (FdorParts_10 ((n, ([], (0, ()))), ((v, (9, ())), ((b, (q, ())), ((), ()))))).run _ = _
          rw [key 9 (by omega), if_pos h3]
          rfl
        · refine (bif_false (by simpa using h3) _ _).trans ?_
          show (FdorParts_10 ((n, ([], (0, ()))), ((v, (e1, ())), ((b, (q, ())), ((), ()))))).run _ = _
          rw [key e1 (by omega), if_neg h3]
          rfl
    · refine (bif_true (by simpa using h1) _ _).trans ?_
      show (FdorParts_10 ((n, ([], (0, ()))), ((v, (e1, ())), ((b, (q, ())), ((), ()))))).run _ = _
      rw [key e1 (fun h => absurd h h1), if_neg h1]
      rfl
@[irreducible] noncomputable def sporTD (v : Int) (b : List Int) (s : DeS) : torTopic.den × DeS := (((spDStr b s).1, ((sporPsD v b (spDStr b s).2).1, ())), (sporPsD v b (spDStr b s).2).2)
theorem sporTD_ok {v : Int} {b : List Int} {s : DeS} (h : spDok b s.2 = true) : spDok b (sporTD v b s).2.2 = true := by
  unfold sporTD
  exact sporPsD_ok (spDStr_ok h)
abbrev iodorTopic : Io := ⟨[.ptr 0 0], oDec1, [], [.dat torTopic true false], none⟩
def FdorTopic (d : iodorTopic.In) : Tr iodorTopic.Res := .ite (spDok d.2.2.2.1.1 d.2.2.2.1.2.1) (.ret (.ret (((sporTD d.2.2.1.2.1 d.2.2.2.1.1 (decSt d.2.2)).1, ()), decOut1 d.2.2.1.2.1 d.2.2.2.1.1 (sporTD d.2.2.1.2.1 d.2.2.2.1.1 (decSt d.2.2)).2))) .no
abbrev csdorTopic : List (Nat × Hc) := [(84, ioHd iodStr FdStr), (85, ioHd iodorParts FdorParts)]
def hddorTopic : Hd := hdT csdorTopic
def lpdorTopic : Lp := lpT []
def bodydorTopic (a0 : Int) (a1 : Int) (a2 : List Int) (a3 : Int) : Option iodorTopic.Res := bif spDok a2 a3 then bif spDok a2 (spDStr a2 (a1, a3)).snd.snd then some (Out.ret ((((spDStr a2 (a1, a3)).fst, (sporPsD a0 a2 (spDStr a2 (a1, a3)).snd).fst, ()), ()), ((), ()), ((), a0, (sporPsD a0 a2 (spDStr a2 (a1, a3)).snd).snd.fst, ()), (a2, (sporPsD a0 a2 (spDStr a2 (a1, a3)).snd).snd.snd, ()), ())) else none else none
theorem rundorTopic (a0 : Int) (a1 : Int) (a2 : List Int) (a3 : Int) : Io.run tt hddorTopic dr lpdorTopic iodorTopic Go.Proofs.Tryz.f83 (((), ()), ((), ()), ((), a0, a1, ()), (a2, a3, ()), ()) = bodydorTopic a0 a1 a2 a3 := by kernel_rfl
theorem okdorTopic : HcOk prog 83 (ioHd iodorTopic FdorTopic) := by
  refine fn_sound (n := 400) hm (cs := csdorTopic) (.cons okdStr (.cons okdorParts .nil)) (lp := lpdorTopic) (fn := Go.Proofs.Tryz.f83) (by kernel_rfl) (by kernel_rfl) (by kernel_rfl) iodorTopic (.done (by kernel_rfl)) FdorTopic ?_
  rintro ⟨⟨⟨⟩, ⟨⟩⟩, ⟨⟨⟩, ⟨⟩⟩, ⟨⟨⟩, (v : Int), (e : Int), ⟨⟩⟩, ⟨(b : List Int), (p : Int), ⟨⟩⟩, ⟨⟩⟩ out hw ho
  obtain ⟨hg, ho⟩ := Tr.guard ho
  have hg : spDok b p = true := hg
  cases ho
  refine (rundorTopic v e b p).trans ?_
  unfold bodydorTopic
  show _ = some (Out.ret (((sporTD v b (e, p)).1, ()), decOut1 v b (sporTD v b (e, p)).2))
  unfold sporTD
  refine (bif_true hg _ _).trans ?_
  exact bif_true (spDStr_ok (s := (e, p)) hg) _ _
@[irreducible] noncomputable def sporTsD (v : Int) (b : List Int) (s : DeS) : List torTopic.den × DeS := spList (sporTD v b) b s
theorem sporTsD_ok {v : Int} {b : List Int} {s : DeS} (h : spDok b s.2 = true) : spDok b (sporTsD v b s).2.2 = true := by
  unfold sporTsD
  exact spList_ok (fun s h => sporTD_ok h) h
abbrev iodorTopics : Io := ⟨[.ptr 0 0, .fnc 83 false [2]], oDecC, [], [.dat (.sl 53 torTopic) false false], none⟩
def FdorTopics (d : iodorTopics.In) : Tr iodorTopics.Res := .ite (spDok d.2.2.1.1 d.2.2.1.2.1) (.ret (.ret (((sporTsD d.2.1.2.1 d.2.2.1.1 (decStC d.2)).1, ()), decOutC d.2.1.2.1 d.2.2.1.1 (sporTsD d.2.1.2.1 d.2.2.1.1 (decStC d.2)).2))) .no
abbrev csdorTopics : List (Nat × Hc) := [(81, ioHd iodI32 FdI32), (83, ioHd iodorTopic FdorTopic)]
def hddorTopics : Hd := hdT csdorTopics
abbrev lodorTopics_10 : Lo := ⟨⟨[.one (.ptr 0 0), .one (.fnp 83 false [2]), .any, .any, .any, .one (.hol (.int IntKind.i32)), .one (.onl 53 torTopic 19), .one (.hol (.int IntKind.i32)), .any, .any, .any, .any, .any, .any, .any, .any, .any, .any, .any, .any, .any, .any, .any, .any, .any, .any, .any, .any, .any, .any, .any, .any, .any, .any, .any, .any, .any, .any, .any, .any, .any, .any, .any, .any, .any, .any], [some [.ptr 1 0, .hol (.int IntKind.i64), .hol (.int IntKind.i64)], some [.hol (.sl 5 (Ty.int IntKind.u8)), .hol (.int IntKind.i64)], some [.ptr 0 0]]⟩, [(.exit 1, ⟨[.any, .any, .any, .any, .any, .any, .one (.onl 53 torTopic 19), .any, .any, .any, .any, .any, .any, .any, .any, .any, .any, .any, .any, .any, .any, .any, .any, .any, .any, .any, .any, .any, .any, .any, .any, .any, .any, .any, .any, .any, .any, .any, .any, .any, .any, .any, .any, .any, .any, .any], [some [.ptr 1 0, .hol (.int IntKind.i64), .hol (.int IntKind.i64)], some [.hol (.sl 5 (Ty.int IntKind.u8)), .hol (.int IntKind.i64)], some [.ptr 0 0]]⟩)]⟩
-- FdorTopics_10 : lodorTopics_10.st.den → Tr (DenX lodorTopics_10.xs) | ((h4, (h5, (h6, ()))), ((h7, (h8, ())), ((h9, (h10, ())), ((), ()))))
def FdorTopics_10 (d : lodorTopics_10.st.den) : Tr (DenX lodorTopics_10.xs) :=
  .ite (decide (d.1.2.2.1 = 0) && (decide (d.1.2.1.length = 0) && (spDok d.2.2.1.1 d.2.2.1.2.1 && (decide (d.1.1 ≤ (16 : Int)) || decide (d.2.1.2.1 ≠ 0))))) (.ret (.ret ((), (((spRep (sporTD d.2.1.1 d.2.2.1.1) d.1.1.toNat (d.2.1.2.1, d.2.2.1.2.1)).1, ()), decOutB d.2.1.1 d.2.2.1.1 (spRep (sporTD d.2.1.1 d.2.2.1.1) d.1.1.toNat (d.2.1.2.1, d.2.2.1.2.1)).2)))) .no
def lpdorTopics : Lp := lpT [(10, loHd lodorTopics_10 FdorTopics_10)]
def stepdorTopics_10 {R : Type} (h4 : Int) (h5 : List torTopic.den) (h6 : Int) (h7 : Int) (h8 : Int) (h9 : List Int) (h10 : Int) (next : Int → List torTopic.den → Int → Int → Int → List Int → Int → Option R) (out : DenX lodorTopics_10.xs → Option R) : Option R := bif decide (h6 < h4) then bif h8 == 0 then bif spDok h9 h10 then bif decide (h5.length + 1 ≤ 4294967296) then next (h4) (h5 ++ [(sporTD h7 h9 (h8, h10)).fst]) (IntKind.i32.wrap (h6 + 1)) (h7) ((sporTD h7 h9 (h8, h10)).snd.fst) (h9) ((sporTD h7 h9 (h8, h10)).snd.snd) else none else none else out (.ret ((), ((h5, ()), ((h7, (h8, ())), ((h9, (h10, ())), ((), ())))))) else out (.ret ((), ((h5, ()), ((h7, (h8, ())), ((h9, (h10, ())), ((), ()))))))
def itdorTopics_10 (n : Nat) (h4 : Int) (h5 : List torTopic.den) (h6 : Int) (h7 : Int) (h8 : Int) (h9 : List Int) (h10 : Int) : Option (DenX lodorTopics_10.xs) := lpN tt hddorTopics dr lpdorTopics 3 Go.Proofs.Tryz.f82 (topL Go.Proofs.Tryz.f82 0) n (lodorTopics_10.st.mk' ((h4, (h5, (h6, ()))), ((h7, (h8, ())), ((h9, (h10, ())), ((), ()))))) (decX lodorTopics_10.xs)
theorem sldorTopics_10 (n : Nat) (h4 : Int) (h5 : List torTopic.den) (h6 : Int) (h7 : Int) (h8 : Int) (h9 : List Int) (h10 : Int) : itdorTopics_10 (n + 1) h4 h5 h6 h7 h8 h9 h10 = stepdorTopics_10 h4 h5 h6 h7 h8 h9 h10 (itdorTopics_10 n) some := by kernel_rfl
theorem loopdorTopics (n v : Int) (b : List Int) : ∀ (k j : Nat) (xs : List torTopic.den) (s : DeS), n.toNat < j + k → j ≤ n.toNat → xs.length = j → spDok b s.2 = true → (s.1 = 0 → n ≤ 16) →
    itdorTopics_10 k n xs j v s.1 b s.2 = some (.ret ((), ((xs ++ (spRep (sporTD v b) (n.toNat - j) s).1, ()), decOutB v b (spRep (sporTD v b) (n.toNat - j) s).2))) := by
  intro k
  induction k with
  | zero => intro j xs s h; omega
  | succ k ih =>
    intro j xs s h1 h2 h3 h4 h5
    rw [sldorTopics_10]
    unfold stepdorTopics_10
    by_cases hj : (j : Int) < n
    · refine (bif_true (by simpa using hj) _ _).trans ?_
      obtain ⟨m, hm⟩ : ∃ m, n.toNat - j = m + 1 := ⟨n.toNat - j - 1, by omega⟩
      rw [hm]
      by_cases he : s.1 = 0
      · refine (bif_true (by simpa using he) _ _).trans ?_
        have hn := h5 he
        refine (bif_true h4 _ _).trans ?_
        refine (bif_true (decide_eq_true (show xs.length + 1 ≤ 4294967296 by omega)) _ _).trans ?_
        have hw : IntKind.i32.wrap ((j : Int) + 1) = ((j + 1 : Nat) : Int) := wrap_id (by simp [inR, IntKind.min, IntKind.max, IntKind.signed, IntKind.bits]; omega)
        rw [hw]
        refine (ih (j + 1) (xs ++ [(sporTD v b s).1]) (sporTD v b s).2 (by omega) (by omega) (by simp [h3]) (sporTD_ok h4) (fun _ => hn)).trans ?_
        rw [show n.toNat - (j + 1) = m by omega, spRep, if_pos he]
        simp
      · refine (bif_false (by simpa using he) _ _).trans ?_
        rw [spRep, if_neg he]
        simp
    · refine (bif_false (by simpa using hj) _ _).trans ?_
      rw [show n.toNat - j = 0 by omega, spRep]
      simp
def bodydorTopics (a0 : Int) (a1 : Int) (a2 : List Int) (a3 : Int) : Option iodorTopics.Res := bif spDok a2 a3 then bif (spDn IntKind.i32 4 a2 (a1, a3)).snd.fst != 0 then (FdorTopics_10 (((spDn IntKind.i32 4 a2 (a1, a3)).fst, ([], (0, ()))), ((a0, ((spDn IntKind.i32 4 a2 (a1, a3)).snd.fst, ())), ((a2, ((spDn IntKind.i32 4 a2 (a1, a3)).snd.snd, ())), ((), ()))))).run fun y => match y with | .ret ((), ((x28, ()), (x29, x30, ()), (x31, x32, ()), (), ())) => (some (Out.ret ((x28, ()), ((), x29, x30, ()), (x31, x32, ()), ((), ()), ()))) else bif decide ((spDn IntKind.i32 4 a2 (a1, a3)).fst < 0) then (FdorTopics_10 (((spDn IntKind.i32 4 a2 (a1, a3)).fst, ([], (0, ()))), ((a0, (5, ())), ((a2, ((spDn IntKind.i32 4 a2 (a1, a3)).snd.snd, ())), ((), ()))))).run fun y => match y with | .ret ((), ((x40, ()), (x41, x42, ()), (x43, x44, ()), (), ())) => (some (Out.ret ((x40, ()), ((), x41, x42, ()), (x43, x44, ()), ((), ()), ()))) else bif decide (16 < (spDn IntKind.i32 4 a2 (a1, a3)).fst) then (FdorTopics_10 (((spDn IntKind.i32 4 a2 (a1, a3)).fst, ([], (0, ()))), ((a0, (9, ())), ((a2, ((spDn IntKind.i32 4 a2 (a1, a3)).snd.snd, ())), ((), ()))))).run fun y => match y with | .ret ((), ((x52, ()), (x53, x54, ()), (x55, x56, ()), (), ())) => (some (Out.ret ((x52, ()), ((), x53, x54, ()), (x55, x56, ()), ((), ()), ()))) else (FdorTopics_10 (((spDn IntKind.i32 4 a2 (a1, a3)).fst, ([], (0, ()))), ((a0, ((spDn IntKind.i32 4 a2 (a1, a3)).snd.fst, ())), ((a2, ((spDn IntKind.i32 4 a2 (a1, a3)).snd.snd, ())), ((), ()))))).run fun y => match y with | .ret ((), ((x64, ()), (x65, x66, ()), (x67, x68, ()), (), ())) => (some (Out.ret ((x64, ()), ((), x65, x66, ()), (x67, x68, ()), ((), ()), ()))) else none
theorem rundorTopics (a0 : Int) (a1 : Int) (a2 : List Int) (a3 : Int) : Io.run tt hddorTopics dr lpdorTopics iodorTopics Go.Proofs.Tryz.f82 (((), (), ()), ((), a0, a1, ()), (a2, a3, ()), ((), ()), ()) = bodydorTopics a0 a1 a2 a3 := by kernel_rfl
theorem okdorTopics : HcOk prog 82 (ioHd iodorTopics FdorTopics) := by
  refine fn_sound (n := 400) hm (cs := csdorTopics) (.cons okdI32 (.cons okdorTopic .nil)) (lp := lpdorTopics) (fn := Go.Proofs.Tryz.f82) (by kernel_rfl) (by kernel_rfl) (by kernel_rfl) iodorTopics (.step (h0 := loHd lodorTopics_10 FdorTopics_10) (by kernel_rfl) (loop_sound (n := 400) hm (cs := csdorTopics) (.cons okdI32 (.cons okdorTopic .nil)) (lp := lpdorTopics) (fn := Go.Proofs.Tryz.f82) (.done (by kernel_rfl)) lodorTopics_10 FdorTopics_10 ?_) (.done (by kernel_rfl))) FdorTopics ?_
  · rintro ⟨⟨(n : Int), (xs : List torTopic.den), (i : Int), ⟨⟩⟩, ⟨⟨(v : Int), (e : Int), ⟨⟩⟩, ⟨(b : List Int), (p : Int), ⟨⟩⟩, ⟨⟨⟩, ⟨⟩⟩⟩⟩ y hw hy
    obtain ⟨hg, hy⟩ := Tr.guard hy
    simp only [Bool.and_eq_true, decide_eq_true_eq, Bool.or_eq_true] at hg
    obtain ⟨h1, h2, h3, h4⟩ := hg
    have h1 : i = 0 := h1
    have h2 : xs = [] := List.eq_nil_of_length_eq_zero h2
    have h3 : spDok b p = true := h3
    have h4 : n ≤ 16 ∨ e ≠ 0 := h4
    subst h1
    subst h2
    refine ⟨n.toNat + 1, (loopdorTopics n v b (n.toNat + 1) 0 [] (e, p) (by omega) (by omega) rfl h3 (fun he => h4.resolve_right (fun h => h he))).trans ?_⟩
    rw [← hy]; rfl
  · rintro ⟨⟨⟨⟩, ⟨⟩, ⟨⟩⟩, ⟨⟨⟩, (v : Int), (e : Int), ⟨⟩⟩, ⟨(b : List Int), (p : Int), ⟨⟩⟩, ⟨⟨⟩, ⟨⟩⟩, ⟨⟩⟩ out hw ho
    obtain ⟨hg, ho⟩ := Tr.guard ho
    have hg : spDok b p = true := hg
    cases ho
    refine (rundorTopics v e b p).trans ?_
    unfold bodydorTopics
    show _ = some (Out.ret (((sporTsD v b (e, p)).1, ()), decOutC v b (sporTsD v b (e, p)).2))
    unfold sporTsD spList
    refine (bif_true hg _ _).trans ?_
    have hr : spDok b (spDn .i32 4 b (e, p)).2.2 = true := spDn_ok .i32 4 (s := (e, p)) hg
    generalize spDn .i32 4 b (e, p) = r at hr ⊢
    obtain ⟨n, e1, q⟩ := r
    have hr : spDok b q = true := hr
    have key : ∀ e' : Int, (e' = 0 → n ≤ 16) → FdorTopics_10 ((n, ([], (0, ()))), ((v, (e', ())), ((b, (q, ())), ((), ())))) = .ite true (.ret (.ret ((), (((spRep (sporTD v b) n.toNat (e', q)).1, ()), decOutB v b (spRep (sporTD v b) n.toNat (e', q)).2)))) .no := by
      intro e' he
      refine congrArg (fun c => Tr.ite c _ _) ?_
      show (decide ((0 : Int) = 0) && (decide (([] : List torTopic.den).length = 0) && (spDok b q && (decide (n ≤ 16) || decide (e' ≠ 0))))) = true
      rw [hr]
      by_cases h : e' = 0
      · simp [he h]
      · simp [h]
    unfold spLen
    show (bif e1 != 0 then _ else _) = _
    by_cases h1 : e1 = 0
    · refine (bif_false (by simpa using h1) _ _).trans ?_
      show (bif decide (n < 0) then _ else _) = _
      rw [if_pos h1]
      by_cases h2 : n < 0
      · refine (bif_true (by simpa using h2) _ _).trans ?_
        show (FdorTopics_10 ((n, ([], (0, ()))), ((v, (5, ())), ((b, (q, ())), ((), ()))))).run _ = _
        rw [key 5 (by omega), if_pos h2]
        rfl
      · refine (bif_false (by simpa using h2) _ _).trans ?_
        show (bif decide (16 < n) then _ else _) = _
        rw [if_neg h2]
        by_cases h3 : 16 < n
        · refine (bif_true (by simpa using h3) _ _).trans ?_
          show (FdorTopics_10 ((n, ([], (0, ()))), ((v, (9, ())), ((b, (q, ())), ((), ()))))).run _ = _
          rw [key 9 (by omega), if_pos h3]
          rfl
        · refine (bif_false (by simpa using h3) _ _).trans ?_
          show (FdorTopics_10 ((n, ([], (0, ()))), ((v, (e1, ())), ((b, (q, ())), ((), ()))))).run _ = _
          rw [key e1 (by omega), if_neg h3]
          rfl
    · refine (bif_true (by simpa using h1) _ _).trans ?_
      show (FdorTopics_10 ((n, ([], (0, ()))), ((v, (e1, ())), ((b, (q, ())), ((), ()))))).run _ = _
      rw [key e1 (fun h => absurd h h1), if_neg h1]
      rfl
abbrev iodorTopicsZ : Io := ⟨[.ptr 0 0, .fnc 83 false [1]], oDecCZ, [], [.dat (.sl 53 torTopic) false false], none⟩
def FdorTopicsZ (d : iodorTopicsZ.In) : Tr iodorTopicsZ.Res := .ite (decide (d.2.1.2.2.1 ≠ 0)) (.ret (.ret ((([] : List torTopic.den), ()), d.2))) .no
abbrev csdorTopicsZ : List (Nat × Hc) := [(81, orHd deadB (ioHd iodI32Z FdI32Z) (ioHd iodI32 FdI32))]
def hddorTopicsZ : Hd := hdT csdorTopicsZ
abbrev lodorTopicsZ_10 : Lo := ⟨⟨[.one (.ptr 0 0), .one (.fnp 83 false [1]), .any, .any, .any, .one (.hol (.int IntKind.i32)), .one (.onl 53 torTopic 17), .one (.hol (.int IntKind.i32)), .any, .any, .any, .any, .any, .any, .any, .any, .any, .any, .any, .any, .any, .any, .any, .any, .any, .any, .any, .any, .any, .any, .any, .any, .any, .any, .any, .any, .any, .any, .any, .any, .any, .any, .any, .any, .any, .any], [some [.nilp, .hol (.int IntKind.i64), .hol (.int IntKind.i64)], some [.ptr 0 0]]⟩, [(.exit 1, ⟨[.any, .any, .any, .any, .any, .any, .one (.onl 53 torTopic 17), .any, .any, .any, .any, .any, .any, .any, .any, .any, .any, .any, .any, .any, .any, .any, .any, .any, .any, .any, .any, .any, .any, .any, .any, .any, .any, .any, .any, .any, .any, .any, .any, .any, .any, .any, .any, .any, .any, .any], [some [.nilp, .hol (.int IntKind.i64), .hol (.int IntKind.i64)], some [.ptr 0 0]]⟩)]⟩
-- FdorTopicsZ_10 : lodorTopicsZ_10.st.den → Tr (DenX lodorTopicsZ_10.xs) | ((h2, (h3, (h4, ()))), ((h5, (h6, ())), ((), ())))
def FdorTopicsZ_10 (d : lodorTopicsZ_10.st.den) : Tr (DenX lodorTopicsZ_10.xs) :=
  .ite (decide (d.2.1.2.1 ≠ 0)) (.ret (.ret ((), ((d.1.2.1, ()), d.2)))) .no
def lpdorTopicsZ : Lp := lpT [(10, loHd lodorTopicsZ_10 FdorTopicsZ_10)]
def stepdorTopicsZ_10 {R : Type} (h2 : Int) (h3 : List torTopic.den) (h4 : Int) (h5 : Int) (h6 : Int) (next : Int → List torTopic.den → Int → Int → Int → Option R) (out : DenX lodorTopicsZ_10.xs → Option R) : Option R := bif decide (h4 < h2) then bif h6 == 0 then none else out (.ret ((), ((h3, ()), ((h5, (h6, ())), ((), ()))))) else out (.ret ((), ((h3, ()), ((h5, (h6, ())), ((), ())))))
def itdorTopicsZ_10 (n : Nat) (h2 : Int) (h3 : List torTopic.den) (h4 : Int) (h5 : Int) (h6 : Int) : Option (DenX lodorTopicsZ_10.xs) := lpN tt hddorTopicsZ dr lpdorTopicsZ 2 Go.Proofs.Tryz.f82 (topL Go.Proofs.Tryz.f82 0) n (lodorTopicsZ_10.st.mk' ((h2, (h3, (h4, ()))), ((h5, (h6, ())), ((), ())))) (decX lodorTopicsZ_10.xs)
theorem sldorTopicsZ_10 (n : Nat) (h2 : Int) (h3 : List torTopic.den) (h4 : Int) (h5 : Int) (h6 : Int) : itdorTopicsZ_10 (n + 1) h2 h3 h4 h5 h6 = stepdorTopicsZ_10 h2 h3 h4 h5 h6 (itdorTopicsZ_10 n) some := by kernel_rfl
def bodydorTopicsZ (a0 : Int) (a1 : Int) : Option iodorTopicsZ.Res := bif decide (a1 ≠ 0) then bif a1 != 0 then (FdorTopicsZ_10 ((0, ([], (0, ()))), ((a0, (a1, ())), ((), ())))).run fun y => match y with | .ret ((), ((x13, ()), (x14, x15, ()), (), ())) => (some (Out.ret ((x13, ()), ((), x14, x15, ()), ((), ()), ()))) else (FdorTopicsZ_10 ((0, ([], (0, ()))), ((a0, (a1, ())), ((), ())))).run fun y => match y with | .ret ((), ((x21, ()), (x22, x23, ()), (), ())) => (some (Out.ret ((x21, ()), ((), x22, x23, ()), ((), ()), ()))) else none
theorem rundorTopicsZ (a0 : Int) (a1 : Int) : Io.run tt hddorTopicsZ dr lpdorTopicsZ iodorTopicsZ Go.Proofs.Tryz.f82 (((), (), ()), ((), a0, a1, ()), ((), ()), ()) = bodydorTopicsZ a0 a1 := by kernel_rfl
theorem okdorTopicsZ : HcOk prog 82 (ioHd iodorTopicsZ FdorTopicsZ) := by
  refine fn_sound (n := 400) hm (cs := csdorTopicsZ) (.cons (or_sound okdI32Z okdI32) .nil) (lp := lpdorTopicsZ) (fn := Go.Proofs.Tryz.f82) (by kernel_rfl) (by kernel_rfl) (by kernel_rfl) iodorTopicsZ (.step (h0 := loHd lodorTopicsZ_10 FdorTopicsZ_10) (by kernel_rfl) (loop_sound (n := 400) hm (cs := csdorTopicsZ) (.cons (or_sound okdI32Z okdI32) .nil) (lp := lpdorTopicsZ) (fn := Go.Proofs.Tryz.f82) (.done (by kernel_rfl)) lodorTopicsZ_10 FdorTopicsZ_10 ?_) (.done (by kernel_rfl))) FdorTopicsZ ?_
  · rintro ⟨⟨(n : Int), (xs : List torTopic.den), (i : Int), ⟨⟩⟩, ⟨⟨(v : Int), (e : Int), ⟨⟩⟩, ⟨⟨⟩, ⟨⟩⟩⟩⟩ y hw hy
    obtain ⟨hg, hy⟩ := Tr.guard hy
    have hg : e ≠ 0 := of_decide_eq_true hg
    refine ⟨1, (sldorTopicsZ_10 0 n xs i v e).trans ?_⟩
    unfold stepdorTopicsZ_10
    rw [← hy]
    by_cases h : i < n
    · refine (bif_true (by simpa using h) _ _).trans ?_
      exact bif_false (by simpa using hg) _ _
    · exact bif_false (by simpa using h) _ _
  · rintro ⟨⟨⟨⟩, ⟨⟩, ⟨⟩⟩, ⟨⟨⟩, (v : Int), (e : Int), ⟨⟩⟩, ⟨⟨⟩, ⟨⟩⟩, ⟨⟩⟩ out hw ho
    obtain ⟨hg, ho⟩ := Tr.guard ho
    have hg : e ≠ 0 := of_decide_eq_true hg
    cases ho
    refine (rundorTopicsZ v e).trans ?_
    unfold bodydorTopicsZ
    have e1 : FdorTopicsZ_10 ((0, ([], (0, ()))), ((v, (e, ())), ((), ()))) = .ite true (.ret (.ret ((), ((([] : List torTopic.den), ()), ((v, (e, ())), ((), ())))))) .no := congrArg (fun c => Tr.ite c _ _) (decide_eq_true hg)
    refine (bif_true (by simpa using hg) _ _).trans ?_
    refine (bif_true (by simpa using hg) _ _).trans ?_
    rw [e1]
    rfl
def sporZ : torMsg.den := (0, (([] : List torTopic.den), ()))
def sporDB (v : Int) (b : List Int) (s : DeS) : torMsg.den × DeS :=
  (((spDHasN .i32 4 v 2 3 b s).1, ((sporTsD v b (spDHasN .i32 4 v 2 3 b s).2).1, ())), (sporTsD v b (spDHasN .i32 4 v 2 3 b s).2).2)
def sporD (v : Int) (b : List Int) : torMsg.den × Int := if 0 ≤ v ∧ v ≤ 3 ∧ (b.length : Int) ≤ 130048 then (if spDEnd b (sporDB v b (0, 0)).2 = 0 then ((sporDB v b (0, 0)).1, 0) else (sporZ, spDEnd b (sporDB v b (0, 0)).2)) else (sporZ, spNewD v)
abbrev iodorMsg : Io := ⟨[dI, dL], [], [], [.dat torMsg true false, dI], none⟩
def FdorMsg (d : iodorMsg.In) : Tr iodorMsg.Res := .ret (.ret (((sporD d.1.1 d.1.2.1).1, ((sporD d.1.1 d.1.2.1).2, ())), ()))
abbrev csdorMsg : List (Nat × Hc) := [(79, orHd newBad (ioHd iodNewZ FdNewZ) (ioHd iodNew FdNew)), (80, orHd deadB (ioHd iodHasZ FdHasZ) (ioHd iodHas FdHas)), (81, orHd deadB (ioHd iodI32Z FdI32Z) (ioHd iodI32 FdI32)), (82, orHd deadB (ioHd iodorTopicsZ FdorTopicsZ) (ioHd iodorTopics FdorTopics)), (90, orHd deadB (ioHd iodEndZ FdEndZ) (ioHd iodEnd FdEnd))]
def hddorMsg : Hd := hdT csdorMsg
def lpdorMsg : Lp := lpT []
def bodydorMsg (a0 : Int) (a1 : List Int) : Option iodorMsg.Res := bif !(decide (0 ≤ a0) && (decide (a0 ≤ 3) && decide ((↑a1.length : Int) ≤ 130048))) then bif decide (0 ≤ a0) && (decide (a0 ≤ 3) && decide ((↑a1.length : Int) ≤ 130048)) then none else bif decide (spNewD a0 ≠ 0) then bif decide (spNewD a0 ≠ 0) then bif decide (spNewD a0 ≠ 0) then bif spNewD a0 != 0 then some (Out.ret (((0, [], ()), spNewD a0, ()), ())) else some (Out.ret (((0, [], ()), 0, ()), ())) else none else none else none else bif decide (0 ≤ a0) && (decide (a0 ≤ 3) && decide ((↑a1.length : Int) ≤ 130048)) then bif spDHas a0 2 3 0 then bif spDok a1 0 then bif spDok a1 (spRd a1 0 4).snd.fst then bif spDEnd a1 (sporTsD a0 a1 ((spRd a1 0 4).snd.snd, (spRd a1 0 4).snd.fst)).snd != 0 then some (Out.ret (((0, [], ()), spDEnd a1 (sporTsD a0 a1 ((spRd a1 0 4).snd.snd, (spRd a1 0 4).snd.fst)).snd, ()), ())) else some (Out.ret (((IntKind.i32.wrap (spRd a1 0 4).fst, (sporTsD a0 a1 ((spRd a1 0 4).snd.snd, (spRd a1 0 4).snd.fst)).fst, ()), 0, ()), ())) else none else none else bif spDok a1 0 then bif spDEnd a1 (sporTsD a0 a1 (0, 0)).snd != 0 then some (Out.ret (((0, [], ()), spDEnd a1 (sporTsD a0 a1 (0, 0)).snd, ()), ())) else some (Out.ret (((0, (sporTsD a0 a1 (0, 0)).fst, ()), 0, ()), ())) else none else none
theorem rundorMsg (a0 : Int) (a1 : List Int) : Io.run tt hddorMsg dr lpdorMsg iodorMsg Go.Proofs.Tryz.f25 ((a0, a1, ()), ()) = bodydorMsg a0 a1 := by kernel_rfl
theorem okdorMsg : HcOk prog 25 (ioHd iodorMsg FdorMsg) := by
  refine fn_sound (n := 400) hm (cs := csdorMsg) (.cons (or_sound okdNewZ okdNew) (.cons (or_sound okdHasZ okdHas) (.cons (or_sound okdI32Z okdI32) (.cons (or_sound okdorTopicsZ okdorTopics) (.cons (or_sound okdEndZ okdEnd) .nil))))) (lp := lpdorMsg) (fn := Go.Proofs.Tryz.f25) (by kernel_rfl) (by kernel_rfl) (by kernel_rfl) iodorMsg (.done (by kernel_rfl)) FdorMsg ?_
  rintro ⟨⟨(v : Int), (b : List Int), ⟨⟩⟩, ⟨⟩⟩ out hw ho
  cases ho
  refine (rundorMsg v b).trans ?_
  unfold bodydorMsg
  show _ = some (Out.ret (((sporD v b).1, ((sporD v b).2, ())), ()))
  by_cases h : 0 ≤ v ∧ v ≤ 3 ∧ (b.length : Int) ≤ 130048
  · have hc : (decide (0 ≤ v) && (decide (v ≤ 3) && decide ((b.length : Int) ≤ 130048))) = true := by simpa using h
    refine (bif_false (by rw [hc]; rfl) _ _).trans ?_
    refine (bif_true hc _ _).trans ?_
    have hg : spDok b ((0, 0) : DeS).2 = true := by simp [spDok]; omega
    unfold sporD sporDB
    rw [if_pos h]
    show (bif spDHas v 2 3 ((0, 0) : DeS).1 then _ else _) = _
    cases h0 : spDHas v 2 3 ((0, 0) : DeS).1
    · have e0 : spDHasN .i32 4 v 2 3 b ((0, 0) : DeS) = (0, ((0, 0) : DeS)) := by unfold spDHasN; rw [if_neg (by rw [h0]; decide)]
      rw [e0]
      refine (bif_true hg _ _).trans ?_
      have gf1 : spDok b (sporTsD v b ((0, 0) : DeS)).2.2 = true := sporTsD_ok (s := ((0, 0) : DeS)) hg
      show _ = some (Out.ret (((if spDEnd b (sporTsD v b ((0, 0) : DeS)).2 = 0 then _ else _ : torMsg.den × Int).1, _), ()))
      by_cases hE : spDEnd b (sporTsD v b ((0, 0) : DeS)).2 = 0
      · rw [if_pos hE]
        exact bif_false (show (spDEnd b (sporTsD v b ((0, 0) : DeS)).2 != 0) = false by simpa using hE) _ _
      · rw [if_neg hE]
        exact bif_true (show (spDEnd b (sporTsD v b ((0, 0) : DeS)).2 != 0) = true by simpa using hE) _ _
    · have e0 : spDHasN .i32 4 v 2 3 b ((0, 0) : DeS) = spDn .i32 4 b ((0, 0) : DeS) := by unfold spDHasN; rw [if_pos h0]
      rw [e0]
      refine (bif_true hg _ _).trans ?_
      have g0 : spDok b (spDn .i32 4 b ((0, 0) : DeS)).2.2 = true := spDn_ok .i32 4 (s := ((0, 0) : DeS)) hg
      refine (bif_true g0 _ _).trans ?_
      have gt1 : spDok b (sporTsD v b (spDn .i32 4 b ((0, 0) : DeS)).2).2.2 = true := sporTsD_ok (s := (spDn .i32 4 b ((0, 0) : DeS)).2) g0
      show _ = some (Out.ret (((if spDEnd b (sporTsD v b (spDn .i32 4 b ((0, 0) : DeS)).2).2 = 0 then _ else _ : torMsg.den × Int).1, _), ()))
      by_cases hE : spDEnd b (sporTsD v b (spDn .i32 4 b ((0, 0) : DeS)).2).2 = 0
      · rw [if_pos hE]
        exact bif_false (show (spDEnd b (sporTsD v b (spDn .i32 4 b ((0, 0) : DeS)).2).2 != 0) = false by simpa using hE) _ _
      · rw [if_neg hE]
        exact bif_true (show (spDEnd b (sporTsD v b (spDn .i32 4 b ((0, 0) : DeS)).2).2 != 0) = true by simpa using hE) _ _
  · have hc : (decide (0 ≤ v) && (decide (v ≤ 3) && decide ((b.length : Int) ≤ 130048))) = false := by
      rw [Bool.eq_false_iff]
      intro h'
      simp only [Bool.and_eq_true, decide_eq_true_eq] at h'
      exact h h'
    have hn : spNewD v ≠ 0 := by unfold spNewD; split <;> decide
    unfold sporD
    rw [if_neg h]
    refine (bif_true (by rw [hc]; rfl) _ _).trans ?_
    refine (bif_false hc _ _).trans ?_
    repeat refine (bif_true (decide_eq_true hn) _ _).trans ?_
    exact bif_true (by simpa using hn) _ _
end
end Go.Proofs.YtjpeefegeobgfaaGreat.Sym
namespace Go.Proofs.YtjpeefegeobgfaaGreat.Sym
open Go
set_option linter.unusedSimpArgs false
set_option linter.unusedVariables false
noncomputable section
@[irreducible] def spNums (xs : List Int) : Nd := ndRows (xs.map (ndNum 4))
theorem spNums_eq (xs : List Int) : spNums xs = ndRows (xs.map (ndNum 4)) := by unfold spNums; rfl
def spN8O (x : Nd) : Int := x.lab.2.1
theorem spNums_kids (xs : List Int) : (spNums xs).kids.map spN8O = xs := by
  rw [spNums_eq]
  show (xs.map (ndNum 4)).map spN8O = xs
  rw [List.map_map]
  exact map_id_of fun x _ => rfl
def wNs (xs : List Int) : List Int × Int := spArrW (fun x => (spBE x 8, 0)) xs
theorem spW_nums {nm nm2 : List Int} {lo hi lo2 hi2 : Int} {e : List Fd} {v : Int} (xs : List Int) : spW (fld nm 9 lo hi [fld nm2 4 lo2 hi2 e]) v (spNums xs) = wNs xs := by
  rw [spNums_eq, spW_rows]
  unfold wNs
  exact spArrW_congr fun x _ => spW_num (by decide) (w := 8) rfl (spFits_i64 x)
theorem spCut_nums {nm nm2 : List Int} {lo hi lo2 hi2 : Int} {e : List Fd} {v : Int} (xs : List Int) : (spCut (fld nm 9 lo hi [fld nm2 4 lo2 hi2 e]) v (spNums xs)).2 = true := by
  rw [spNums_eq, spCut_rows]
  exact List.all_eq_true.2 fun x _ => spCut_leaf (by decide) (by decide)
theorem spZero_nums {xs : List Int} : spZeroN (spNums xs) = ((xs.length : Int) == 0) := by
  rw [spNums_eq]
  unfold spZeroN
  by_cases h : xs = []
  · subst h; rfl
  · have h1 : (xs.map (ndNum 4)).length ≠ 0 := by simpa using h
    have h2 : ((xs.length : Int) == 0) = false := by simpa using h
    rw [h2]
    exact if_neg h1
theorem spWhole_nums {nm nm2 : List Int} {lo hi lo2 hi2 : Int} {e : List Fd} (xs : List Int) : spWhole (fld nm 9 lo hi [fld nm2 4 lo2 hi2 e]) (spNums xs) := by
  rw [spNums_eq]
  exact spWhole_rows _ _ fun x => spWhole_leaf (by decide) (by decide)
theorem Wri.ns (xs : List Int) : Wri (wNs xs) (spNsE xs) := Wri.items fun x _ => Wri.put x 8
theorem Wri.hasNs (v lo hi : Int) (xs : List Int) : Wri (if lo ≤ v ∧ v ≤ hi then wNs xs else ([], 0)) (spHasNs v lo hi xs) := by
  by_cases h : lo ≤ v ∧ v ≤ hi
  · rw [if_pos h, show spHasNs v lo hi xs = spNsE xs from funext fun s => spHasNs_in h]
    exact Wri.ns xs
  · rw [if_neg h, show spHasNs v lo hi xs = (fun s => s) from funext fun s => spHasNs_out h]
    exact Wri.nop
theorem Rd.ns {b : List Int} {xs : List Int} (hx : ∀ x ∈ xs, inR .i64 x) : Rd b xs (wNs xs) (spNsD b) :=
  (Rd.list fun x h => Rd.num (wrapBE_i64 (hx x h))).congr fun s => by unfold spNsD; rfl
theorem Rd.optNs {b : List Int} {xs : List Int} {v lo hi : Int} (hx : ∀ x ∈ xs, inR .i64 x) (h0 : ¬ (lo ≤ v ∧ v ≤ hi) → xs = []) : Rd b xs (if lo ≤ v ∧ v ≤ hi then wNs xs else ([], 0)) (spDHasNs v lo hi b) := by
  by_cases h : lo ≤ v ∧ v ≤ hi
  · rw [if_pos h]
    intro hz
    have hn := Rd.ns (b := b) hx hz
    refine ⟨fun p rest hp hd => ?_, fun p t hp ht hd => ?_, fun s hs => ?_⟩
    · unfold spDHasNs
      rw [if_pos (spDHas_in h)]; exact hn.full p rest hp hd
    · unfold spDHasNs
      rw [if_pos (spDHas_in h)]; exact hn.short p t hp ht hd
    · unfold spDHasNs
      rw [if_neg (by rw [spDHas_err hs]; decide)]
  · rw [if_neg h]
    intro _
    refine Rea.nop b xs (fun p => ?_) (fun s hs => ?_)
    · unfold spDHasNs
      rw [if_neg (by rw [spDHas_out h]; decide), h0 h]
    · unfold spDHasNs
      rw [if_neg (by rw [spDHas_out h]; decide)]
theorem ite_and3 {c : Prop} [Decidable c] {x y : Bool} : (if c then true else (x && y)) = ((if c then true else x) && (if c then true else y)) := by split <;> rfl
abbrev iozNs : Io := ⟨[.dat (.sl 2 (.int .i64)) false false], [], [], [dNode], none⟩
def FzNs (d : iozNs.In) : Tr iozNs.Res := .ite (decide (d.1.1.length ≤ 4294967296)) (.ret (.ret ((spNums d.1.1, ()), ()))) .no
abbrev cszNs : List (Nat × Hc) := [(130, ioHd iotNum FtNum), (133, ioHd iotRows FtRows)]
def hdzNs : Hd := hdT cszNs
abbrev lozNs_4 : Lo := ⟨⟨[.one (.hol (.sl 2 (Ty.int IntKind.i64))), .any, .one (.ptr 2 0), .one (.onl 98 tNode 7), .one (.hol (.int IntKind.i64)), .any, .any, .any, .any, .any, .any, .any, .any, .any, .any, .any, .any, .any, .any, .any, .any, .any], [none, none, some [.hol (.int IntKind.i64), .hol (.int IntKind.i64), .hol .bool, .onl 5 (Ty.int IntKind.u8) 1032, .onl 98 tNode 1034]]⟩, [(.exit 0, ⟨[.any, .any, .one (.ptr 2 0), .one (.onl 98 tNode 7), .any, .any, .any, .any, .any, .any, .any, .any, .any, .any, .any, .any, .any, .any, .any, .any, .any, .any], [none, none, some [.hol (.int IntKind.i64), .hol (.int IntKind.i64), .hol .bool, .onl 5 (Ty.int IntKind.u8) 1032, .onl 98 tNode 1034]]⟩)]⟩
-- FzNs_4 : lozNs_4.st.den → Tr (DenX lozNs_4.xs) | ((h1, (h2, (h3, ()))), ((h4, (h5, (h6, (h7, (h8, ()))))), ()))
def FzNs_4 (d : lozNs_4.st.den) : Tr (DenX lozNs_4.xs) :=
  .ite ((decide (d.1.2.1.length = 0) && decide (d.1.2.2.1 = 0)) && decide (d.1.1.length ≤ 4294967296)) (.ret (.ret ((), ((d.1.1.map (ndNum 4), ()), (d.2.1, ()))))) .no
def lpzNs : Lp := lpT [(4, loHd lozNs_4 FzNs_4)]
def stepzNs_4 {R : Type} (h1 : List Int) (h2 : List tNode.den) (h3 : Int) (h4 : Int) (h5 : Int) (h6 : Bool) (h7 : List Int) (h8 : List tNode.den) (next : List Int → List tNode.den → Int → Int → Int → Bool → List Int → List tNode.den → Option R) (out : DenX lozNs_4.xs → Option R) : Option R := bif decide (h3 < (↑h1.length : Int)) then bif decide (0 ≤ h3) && decide (h3 < (↑h1.length : Int)) then bif decide (h2.length + 1 ≤ 4294967296) then next (h1) (h2 ++ [Tre.mk (4, h1.getD h3.toNat 0, false, [], ()) []]) (IntKind.i64.wrap (h3 + 1)) (h4) (h5) (h6) (h7) (h8) else none else none else out (.ret ((), ((h2, ()), ((h4, (h5, (h6, (h7, (h8, ()))))), ()))))
def itzNs_4 (n : Nat) (h1 : List Int) (h2 : List tNode.den) (h3 : Int) (h4 : Int) (h5 : Int) (h6 : Bool) (h7 : List Int) (h8 : List tNode.den) : Option (DenX lozNs_4.xs) := lpN tt hdzNs dr lpzNs 0 Go.Proofs.Tryz.f144 (topL Go.Proofs.Tryz.f144 0) n (lozNs_4.st.mk' ((h1, (h2, (h3, ()))), ((h4, (h5, (h6, (h7, (h8, ()))))), ()))) (decX lozNs_4.xs)
theorem slzNs_4 (n : Nat) (h1 : List Int) (h2 : List tNode.den) (h3 : Int) (h4 : Int) (h5 : Int) (h6 : Bool) (h7 : List Int) (h8 : List tNode.den) : itzNs_4 (n + 1) h1 h2 h3 h4 h5 h6 h7 h8 = stepzNs_4 h1 h2 h3 h4 h5 h6 h7 h8 (itzNs_4 n) some := by kernel_rfl
theorem loopzNs {xs : List Int} (hl : xs.length ≤ 4294967296) (a' b' : Int) (z' : Bool) (x' : List Int) (l' : List Nd) : ∀ (k j : Nat) (o : List Nd), xs.length < j + k → j ≤ xs.length → o.length ≤ j →
    itzNs_4 k xs o j a' b' z' x' l' = some (.ret ((), ((o ++ (xs.drop j).map (ndNum 4), ()), ((a', (b', (z', (x', (l', ()))))), ())))) := by
  intro k
  induction k with
  | zero => intro j o h1 h2; omega
  | succ k ih =>
    intro j o h1 h2 h3
    rw [slzNs_4]
    unfold stepzNs_4
    by_cases hj : j < xs.length
    · refine (bif_true (decide_eq_true (show (j : Int) < (xs.length : Int) by omega)) _ _).trans ?_
      refine (bif_true (by simp; omega) _ _).trans ?_
      refine (bif_true (decide_eq_true (show o.length + 1 ≤ 4294967296 by omega)) _ _).trans ?_
      rw [wrap_i64 (n := (j : Int) + 1) (by omega) (by omega), List.drop_eq_getElem_cons hj]
      simp only [Int.toNat_natCast, getD_lt hj]
      refine (ih (j + 1) (o ++ [ndNum 4 xs[j]]) (by omega) (by omega) (by simp; omega)).trans ?_
      simp only [List.map_cons, List.append_assoc, List.singleton_append]
    · refine (bif_false (decide_eq_false (show ¬ (j : Int) < (xs.length : Int) by omega)) _ _).trans ?_
      rw [List.drop_of_length_le (by omega)]
      simp
def bodyzNs (a0 : List Int) : Option iozNs.Res := (FzNs_4 ((a0, ([], (0, ()))), ((0, (0, (false, ([], ([], ()))))), ()))).run fun y => match y with | .ret ((), ((x23, ()), (x24, x25, x26, x27, x28, ()), ())) => (some (Out.ret ((Tre.mk (9, 0, false, [], ()) x23, ()), ())))
theorem runzNs (a0 : List Int) : Io.run tt hdzNs dr lpzNs iozNs Go.Proofs.Tryz.f144 ((a0, ()), ()) = bodyzNs a0 := by kernel_rfl
theorem okzNs : HcOk prog 144 (ioHd iozNs FzNs) := by
  refine fn_sound (n := 400) hm (cs := cszNs) (.cons oktNum (.cons oktRows .nil)) (lp := lpzNs) (fn := Go.Proofs.Tryz.f144) (by kernel_rfl) (by kernel_rfl) (by kernel_rfl) iozNs (.step (h0 := loHd lozNs_4 FzNs_4) (by kernel_rfl) (loop_sound (n := 400) hm (cs := cszNs) (.cons oktNum (.cons oktRows .nil)) (lp := lpzNs) (fn := Go.Proofs.Tryz.f144) (.done (by kernel_rfl)) lozNs_4 FzNs_4 ?_) (.done (by kernel_rfl))) FzNs ?_
  · rintro ⟨⟨(xs : List Int), (o : List Nd), (j : Int), ⟨⟩⟩, ⟨⟨(a' : Int), (b' : Int), (z' : Bool), (x' : List Int), (l' : List Nd), ⟨⟩⟩, ⟨⟩⟩⟩ y hw hy
    obtain ⟨hg, hy⟩ := Tr.guard hy
    simp only [Bool.and_eq_true, decide_eq_true_eq] at hg
    obtain ⟨⟨h3, h4⟩, h5⟩ := hg
    have h3 : o = [] := List.eq_nil_of_length_eq_zero h3
    have h4 : j = 0 := h4
    have h5 : xs.length ≤ 4294967296 := h5
    subst h3
    subst h4
    refine ⟨xs.length + 1, (loopzNs h5 a' b' z' x' l' (xs.length + 1) 0 [] (by omega) (by omega) (by simp)).trans ?_⟩
    rw [← hy, List.drop_zero]
    rfl
  · rintro ⟨⟨(xs : List Int), ⟨⟩⟩, ⟨⟩⟩ out hw ho
    obtain ⟨hg, ho⟩ := Tr.guard ho
    have hg : xs.length ≤ 4294967296 := of_decide_eq_true hg
    cases ho
    refine (runzNs xs).trans ?_
    unfold bodyzNs
    have c1 : ((decide (([] : List Nd).length = 0) && decide ((0 : Int) = 0)) && decide (xs.length ≤ 4294967296)) = true := by simpa using hg
    refine (bif_true c1 _ _).trans ?_
    show _ = some (Out.ret ((spNums xs, ()), ()))
    rw [spNums_eq]
    rfl
end
end Go.Proofs.YtjpeefegeobgfaaGreat.Sym
