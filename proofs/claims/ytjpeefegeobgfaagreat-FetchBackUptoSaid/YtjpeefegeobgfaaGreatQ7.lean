/- fetch.DecodeReq: what it reads. -/
import Derived.Test.YtjpeefegeobgfaaGreatQ6

namespace Go.Proofs.YtjpeefegeobgfaaGreat.Sym
open Go
set_option linter.unusedSimpArgs false
set_option linter.unusedVariables false
noncomputable section
@[irreducible] noncomputable def spfqPD (v : Int) (b : List Int) (s : DeS) : tfqPart.den × DeS :=
  (((spDn .i32 4 b s).1, ((spDn .i64 8 b (spDHasN .i32 4 v 3 3 b (spDn .i32 4 b s).2).2).1, ((spDHasN .i32 4 v 3 3 b (spDn .i32 4 b s).2).1, ((spDn .i32 4 b (spDn .i64 8 b (spDHasN .i32 4 v 3 3 b (spDn .i32 4 b s).2).2).2).1, ())))), (spDn .i32 4 b (spDn .i64 8 b (spDHasN .i32 4 v 3 3 b (spDn .i32 4 b s).2).2).2).2)
theorem spfqPD_ok {v : Int} {b : List Int} {s : DeS} (h : spDok b s.2 = true) : spDok b (spfqPD v b s).2.2 = true := by
  unfold spfqPD
  exact spDn_ok _ _ (spDn_ok _ _ (spDHasN_ok (spDn_ok _ _ (h))))
abbrev iodfqPart : Io := ⟨[.ptr 0 0], oDec1, [], [.dat tfqPart true false], none⟩
def FdfqPart (d : iodfqPart.In) : Tr iodfqPart.Res := .ite (spDok d.2.2.2.1.1 d.2.2.2.1.2.1) (.ret (.ret (((spfqPD d.2.2.1.2.1 d.2.2.2.1.1 (decSt d.2.2)).1, ()), decOut1 d.2.2.1.2.1 d.2.2.2.1.1 (spfqPD d.2.2.1.2.1 d.2.2.2.1.1 (decSt d.2.2)).2))) .no
abbrev csdfqPart : List (Nat × Hc) := [(81, ioHd iodI32 FdI32), (89, ioHd iodI64 FdI64), (80, ioHd iodHas FdHas)]
def hddfqPart : Hd := hdT csdfqPart
def lpdfqPart : Lp := lpT []
def bodydfqPart (a0 : Int) (a1 : Int) (a2 : List Int) (a3 : Int) : Option iodfqPart.Res := bif spDok a2 a3 then bif spDHas a0 3 3 (spDn IntKind.i32 4 a2 (a1, a3)).snd.fst then bif spDok a2 (spDn IntKind.i32 4 a2 (a1, a3)).snd.snd then bif spDok a2 (spDn IntKind.i32 4 a2 (spDn IntKind.i32 4 a2 (a1, a3)).snd).snd.snd then bif spDok a2 (spDn IntKind.i64 8 a2 (spDn IntKind.i32 4 a2 (spDn IntKind.i32 4 a2 (a1, a3)).snd).snd).snd.snd then some (Out.ret ((((spDn IntKind.i32 4 a2 (a1, a3)).fst, (spDn IntKind.i64 8 a2 (spDn IntKind.i32 4 a2 (spDn IntKind.i32 4 a2 (a1, a3)).snd).snd).fst, (spDn IntKind.i32 4 a2 (spDn IntKind.i32 4 a2 (a1, a3)).snd).fst, (spDn IntKind.i32 4 a2 (spDn IntKind.i64 8 a2 (spDn IntKind.i32 4 a2 (spDn IntKind.i32 4 a2 (a1, a3)).snd).snd).snd).fst, ()), ()), ((), ()), ((), a0, (spDn IntKind.i32 4 a2 (spDn IntKind.i64 8 a2 (spDn IntKind.i32 4 a2 (spDn IntKind.i32 4 a2 (a1, a3)).snd).snd).snd).snd.fst, ()), (a2, (spDn IntKind.i32 4 a2 (spDn IntKind.i64 8 a2 (spDn IntKind.i32 4 a2 (spDn IntKind.i32 4 a2 (a1, a3)).snd).snd).snd).snd.snd, ()), ())) else none else none else none else bif spDok a2 (spDn IntKind.i32 4 a2 (a1, a3)).snd.snd then bif spDok a2 (spDn IntKind.i64 8 a2 (spDn IntKind.i32 4 a2 (a1, a3)).snd).snd.snd then some (Out.ret ((((spDn IntKind.i32 4 a2 (a1, a3)).fst, (spDn IntKind.i64 8 a2 (spDn IntKind.i32 4 a2 (a1, a3)).snd).fst, 0, (spDn IntKind.i32 4 a2 (spDn IntKind.i64 8 a2 (spDn IntKind.i32 4 a2 (a1, a3)).snd).snd).fst, ()), ()), ((), ()), ((), a0, (spDn IntKind.i32 4 a2 (spDn IntKind.i64 8 a2 (spDn IntKind.i32 4 a2 (a1, a3)).snd).snd).snd.fst, ()), (a2, (spDn IntKind.i32 4 a2 (spDn IntKind.i64 8 a2 (spDn IntKind.i32 4 a2 (a1, a3)).snd).snd).snd.snd, ()), ())) else none else none else none
theorem rundfqPart (a0 : Int) (a1 : Int) (a2 : List Int) (a3 : Int) : Io.run tt hddfqPart dr lpdfqPart iodfqPart Go.Proofs.Tryz.f117 (((), ()), ((), ()), ((), a0, a1, ()), (a2, a3, ()), ()) = bodydfqPart a0 a1 a2 a3 := by kernel_rfl
theorem okdfqPart : HcOk prog 117 (ioHd iodfqPart FdfqPart) := by
  refine fn_sound (n := 400) hm (cs := csdfqPart) (.cons okdI32 (.cons okdI64 (.cons okdHas .nil))) (lp := lpdfqPart) (fn := Go.Proofs.Tryz.f117) (by kernel_rfl) (by kernel_rfl) (by kernel_rfl) iodfqPart (.done (by kernel_rfl)) FdfqPart ?_
  rintro ⟨⟨⟨⟩, ⟨⟩⟩, ⟨⟨⟩, ⟨⟩⟩, ⟨⟨⟩, (v : Int), (e : Int), ⟨⟩⟩, ⟨(b : List Int), (p : Int), ⟨⟩⟩, ⟨⟩⟩ out hw ho
  obtain ⟨hg, ho⟩ := Tr.guard ho
  have hg : spDok b p = true := hg
  cases ho
  refine (rundfqPart v e b p).trans ?_
  unfold bodydfqPart
  show _ = some (Out.ret (((spfqPD v b (e, p)).1, ()), decOut1 v b (spfqPD v b (e, p)).2))
  unfold spfqPD
  have hg : spDok b ((e, p) : DeS).2 = true := hg
  refine (bif_true hg _ _).trans ?_
  have g0 : spDok b (spDn .i32 4 b ((e, p) : DeS)).2.2 = true := spDn_ok .i32 4 (s := ((e, p) : DeS)) hg
  show (bif spDHas v 3 3 (spDn .i32 4 b ((e, p) : DeS)).2.1 then _ else _) = _
  cases h1 : spDHas v 3 3 (spDn .i32 4 b ((e, p) : DeS)).2.1
  · have e1 : spDHasN .i32 4 v 3 3 b (spDn .i32 4 b ((e, p) : DeS)).2 = (0, (spDn .i32 4 b ((e, p) : DeS)).2) := by unfold spDHasN; rw [if_neg (by rw [h1]; decide)]
    rw [e1]
    refine (bif_true g0 _ _).trans ?_
    have gf2 : spDok b (spDn .i64 8 b (spDn .i32 4 b ((e, p) : DeS)).2).2.2 = true := spDn_ok .i64 8 (s := (spDn .i32 4 b ((e, p) : DeS)).2) g0
    refine (bif_true gf2 _ _).trans ?_
    have gf3 : spDok b (spDn .i32 4 b (spDn .i64 8 b (spDn .i32 4 b ((e, p) : DeS)).2).2).2.2 = true := spDn_ok .i32 4 (s := (spDn .i64 8 b (spDn .i32 4 b ((e, p) : DeS)).2).2) gf2
    rfl
  · have e1 : spDHasN .i32 4 v 3 3 b (spDn .i32 4 b ((e, p) : DeS)).2 = spDn .i32 4 b (spDn .i32 4 b ((e, p) : DeS)).2 := by unfold spDHasN; rw [if_pos h1]
    rw [e1]
    refine (bif_true g0 _ _).trans ?_
    have g1 : spDok b (spDn .i32 4 b (spDn .i32 4 b ((e, p) : DeS)).2).2.2 = true := spDn_ok .i32 4 (s := (spDn .i32 4 b ((e, p) : DeS)).2) g0
    refine (bif_true g1 _ _).trans ?_
    have gt2 : spDok b (spDn .i64 8 b (spDn .i32 4 b (spDn .i32 4 b ((e, p) : DeS)).2).2).2.2 = true := spDn_ok .i64 8 (s := (spDn .i32 4 b (spDn .i32 4 b ((e, p) : DeS)).2).2) g1
    refine (bif_true gt2 _ _).trans ?_
    have gt3 : spDok b (spDn .i32 4 b (spDn .i64 8 b (spDn .i32 4 b (spDn .i32 4 b ((e, p) : DeS)).2).2).2).2.2 = true := spDn_ok .i32 4 (s := (spDn .i64 8 b (spDn .i32 4 b (spDn .i32 4 b ((e, p) : DeS)).2).2).2) gt2
    rfl
@[irreducible] noncomputable def spfqPsD (v : Int) (b : List Int) (s : DeS) : List tfqPart.den × DeS := spList (spfqPD v b) b s
theorem spfqPsD_ok {v : Int} {b : List Int} {s : DeS} (h : spDok b s.2 = true) : spDok b (spfqPsD v b s).2.2 = true := by
  unfold spfqPsD
  exact spList_ok (fun s h => spfqPD_ok h) h
abbrev iodfqParts : Io := ⟨[.ptr 0 0, .fnc 117 false [2]], oDecC, [], [.dat (.sl 160 tfqPart) false false], none⟩
def FdfqParts (d : iodfqParts.In) : Tr iodfqParts.Res := .ite (spDok d.2.2.1.1 d.2.2.1.2.1) (.ret (.ret (((spfqPsD d.2.1.2.1 d.2.2.1.1 (decStC d.2)).1, ()), decOutC d.2.1.2.1 d.2.2.1.1 (spfqPsD d.2.1.2.1 d.2.2.1.1 (decStC d.2)).2))) .no
abbrev csdfqParts : List (Nat × Hc) := [(81, ioHd iodI32 FdI32), (117, ioHd iodfqPart FdfqPart)]
def hddfqParts : Hd := hdT csdfqParts
abbrev lodfqParts_10 : Lo := ⟨⟨[.one (.ptr 0 0), .one (.fnp 117 false [2]), .any, .any, .any, .one (.hol (.int IntKind.i32)), .one (.onl 160 tfqPart 19), .one (.hol (.int IntKind.i32)), .any, .any, .any, .any, .any, .any, .any, .any, .any, .any, .any, .any, .any, .any, .any, .any, .any, .any, .any, .any, .any, .any, .any, .any, .any, .any, .any, .any, .any, .any, .any, .any, .any, .any, .any, .any, .any, .any], [some [.ptr 1 0, .hol (.int IntKind.i64), .hol (.int IntKind.i64)], some [.hol (.sl 5 (Ty.int IntKind.u8)), .hol (.int IntKind.i64)], some [.ptr 0 0]]⟩, [(.exit 1, ⟨[.any, .any, .any, .any, .any, .any, .one (.onl 160 tfqPart 19), .any, .any, .any, .any, .any, .any, .any, .any, .any, .any, .any, .any, .any, .any, .any, .any, .any, .any, .any, .any, .any, .any, .any, .any, .any, .any, .any, .any, .any, .any, .any, .any, .any, .any, .any, .any, .any, .any, .any], [some [.ptr 1 0, .hol (.int IntKind.i64), .hol (.int IntKind.i64)], some [.hol (.sl 5 (Ty.int IntKind.u8)), .hol (.int IntKind.i64)], some [.ptr 0 0]]⟩)]⟩
-- FdfqParts_10 : lodfqParts_10.st.den → Tr (DenX lodfqParts_10.xs) | ((h4, (h5, (h6, ()))), ((h7, (h8, ())), ((h9, (h10, ())), ((), ()))))
def FdfqParts_10 (d : lodfqParts_10.st.den) : Tr (DenX lodfqParts_10.xs) :=
  .ite (decide (d.1.2.2.1 = 0) && (decide (d.1.2.1.length = 0) && (spDok d.2.2.1.1 d.2.2.1.2.1 && (decide (d.1.1 ≤ (16 : Int)) || decide (d.2.1.2.1 ≠ 0))))) (.ret (.ret ((), (((spRep (spfqPD d.2.1.1 d.2.2.1.1) d.1.1.toNat (d.2.1.2.1, d.2.2.1.2.1)).1, ()), decOutB d.2.1.1 d.2.2.1.1 (spRep (spfqPD d.2.1.1 d.2.2.1.1) d.1.1.toNat (d.2.1.2.1, d.2.2.1.2.1)).2)))) .no
def lpdfqParts : Lp := lpT [(10, loHd lodfqParts_10 FdfqParts_10)]
def stepdfqParts_10 {R : Type} (h4 : Int) (h5 : List tfqPart.den) (h6 : Int) (h7 : Int) (h8 : Int) (h9 : List Int) (h10 : Int) (next : Int → List tfqPart.den → Int → Int → Int → List Int → Int → Option R) (out : DenX lodfqParts_10.xs → Option R) : Option R := bif decide (h6 < h4) then bif h8 == 0 then bif spDok h9 h10 then bif decide (h5.length + 1 ≤ 4294967296) then next (h4) (h5 ++ [(spfqPD h7 h9 (h8, h10)).fst]) (IntKind.i32.wrap (h6 + 1)) (h7) ((spfqPD h7 h9 (h8, h10)).snd.fst) (h9) ((spfqPD h7 h9 (h8, h10)).snd.snd) else none else none else out (.ret ((), ((h5, ()), ((h7, (h8, ())), ((h9, (h10, ())), ((), ())))))) else out (.ret ((), ((h5, ()), ((h7, (h8, ())), ((h9, (h10, ())), ((), ()))))))
def itdfqParts_10 (n : Nat) (h4 : Int) (h5 : List tfqPart.den) (h6 : Int) (h7 : Int) (h8 : Int) (h9 : List Int) (h10 : Int) : Option (DenX lodfqParts_10.xs) := lpN tt hddfqParts dr lpdfqParts 3 Go.Proofs.Tryz.f116 (topL Go.Proofs.Tryz.f116 0) n (lodfqParts_10.st.mk' ((h4, (h5, (h6, ()))), ((h7, (h8, ())), ((h9, (h10, ())), ((), ()))))) (decX lodfqParts_10.xs)
theorem sldfqParts_10 (n : Nat) (h4 : Int) (h5 : List tfqPart.den) (h6 : Int) (h7 : Int) (h8 : Int) (h9 : List Int) (h10 : Int) : itdfqParts_10 (n + 1) h4 h5 h6 h7 h8 h9 h10 = stepdfqParts_10 h4 h5 h6 h7 h8 h9 h10 (itdfqParts_10 n) some := by kernel_rfl
theorem loopdfqParts (n v : Int) (b : List Int) : ∀ (k j : Nat) (xs : List tfqPart.den) (s : DeS), n.toNat < j + k → j ≤ n.toNat → xs.length = j → spDok b s.2 = true → (s.1 = 0 → n ≤ 16) →
    itdfqParts_10 k n xs j v s.1 b s.2 = some (.ret ((), ((xs ++ (spRep (spfqPD v b) (n.toNat - j) s).1, ()), decOutB v b (spRep (spfqPD v b) (n.toNat - j) s).2))) := by
  intro k
  induction k with
  | zero => intro j xs s h; omega
  | succ k ih =>
    intro j xs s h1 h2 h3 h4 h5
    rw [sldfqParts_10]
    unfold stepdfqParts_10
    by_cases hj : (j : Int) < n
    · refine (bif_true (by simpa using hj) _ _).trans ?_
      obtain ⟨m, hm⟩ : ∃ m, n.toNat - j = m + 1 := ⟨n.toNat - j - 1, by omega⟩
      rw [hm]
      by_cases he : s.1 = 0
      · refine (bif_true (by simpa using he) _ _).trans ?_
        have hn := h5 he
        refine (bif_true h4 _ _).trans ?_
        refine (bif_true (decide_eq_true (show xs.length + 1 ≤ 4294967296 by omega)) _ _).trans ?_
        have hw : IntKind.i32.wrap ((j : Int) + 1) = ((j + 1 : Nat) : Int) := wrap_id (by simp [inR, IntKind.min, IntKind.max, IntKind.signed, IntKind.bits]; omega)
        rw [hw]
        refine (ih (j + 1) (xs ++ [(spfqPD v b s).1]) (spfqPD v b s).2 (by omega) (by omega) (by simp [h3]) (spfqPD_ok h4) (fun _ => hn)).trans ?_
        rw [show n.toNat - (j + 1) = m by omega, spRep, if_pos he]
        simp
      · refine (bif_false (by simpa using he) _ _).trans ?_
        rw [spRep, if_neg he]
        simp
    · refine (bif_false (by simpa using hj) _ _).trans ?_
      rw [show n.toNat - j = 0 by omega, spRep]
      simp
def bodydfqParts (a0 : Int) (a1 : Int) (a2 : List Int) (a3 : Int) : Option iodfqParts.Res := bif spDok a2 a3 then bif (spDn IntKind.i32 4 a2 (a1, a3)).snd.fst != 0 then (FdfqParts_10 (((spDn IntKind.i32 4 a2 (a1, a3)).fst, ([], (0, ()))), ((a0, ((spDn IntKind.i32 4 a2 (a1, a3)).snd.fst, ())), ((a2, ((spDn IntKind.i32 4 a2 (a1, a3)).snd.snd, ())), ((), ()))))).run fun y => match y with | .ret ((), ((x28, ()), (x29, x30, ()), (x31, x32, ()), (), ())) => (some (Out.ret ((x28, ()), ((), x29, x30, ()), (x31, x32, ()), ((), ()), ()))) else bif decide ((spDn IntKind.i32 4 a2 (a1, a3)).fst < 0) then (FdfqParts_10 (((spDn IntKind.i32 4 a2 (a1, a3)).fst, ([], (0, ()))), ((a0, (5, ())), ((a2, ((spDn IntKind.i32 4 a2 (a1, a3)).snd.snd, ())), ((), ()))))).run fun y => match y with | .ret ((), ((x40, ()), (x41, x42, ()), (x43, x44, ()), (), ())) => (some (Out.ret ((x40, ()), ((), x41, x42, ()), (x43, x44, ()), ((), ()), ()))) else bif decide (16 < (spDn IntKind.i32 4 a2 (a1, a3)).fst) then (FdfqParts_10 (((spDn IntKind.i32 4 a2 (a1, a3)).fst, ([], (0, ()))), ((a0, (9, ())), ((a2, ((spDn IntKind.i32 4 a2 (a1, a3)).snd.snd, ())), ((), ()))))).run fun y => match y with | .ret ((), ((x52, ()), (x53, x54, ()), (x55, x56, ()), (), ())) => (some (Out.ret ((x52, ()), ((), x53, x54, ()), (x55, x56, ()), ((), ()), ()))) else (FdfqParts_10 (((spDn IntKind.i32 4 a2 (a1, a3)).fst, ([], (0, ()))), ((a0, ((spDn IntKind.i32 4 a2 (a1, a3)).snd.fst, ())), ((a2, ((spDn IntKind.i32 4 a2 (a1, a3)).snd.snd, ())), ((), ()))))).run fun y => match y with | .ret ((), ((x64, ()), (x65, x66, ()), (x67, x68, ()), (), ())) => (some (Out.ret ((x64, ()), ((), x65, x66, ()), (x67, x68, ()), ((), ()), ()))) else none
theorem rundfqParts (a0 : Int) (a1 : Int) (a2 : List Int) (a3 : Int) : Io.run tt hddfqParts dr lpdfqParts iodfqParts Go.Proofs.Tryz.f116 (((), (), ()), ((), a0, a1, ()), (a2, a3, ()), ((), ()), ()) = bodydfqParts a0 a1 a2 a3 := by kernel_rfl
theorem okdfqParts : HcOk prog 116 (ioHd iodfqParts FdfqParts) := by
  refine fn_sound (n := 400) hm (cs := csdfqParts) (.cons okdI32 (.cons okdfqPart .nil)) (lp := lpdfqParts) (fn := Go.Proofs.Tryz.f116) (by kernel_rfl) (by kernel_rfl) (by kernel_rfl) iodfqParts (.step (h0 := loHd lodfqParts_10 FdfqParts_10) (by kernel_rfl) (loop_sound (n := 400) hm (cs := csdfqParts) (.cons okdI32 (.cons okdfqPart .nil)) (lp := lpdfqParts) (fn := Go.Proofs.Tryz.f116) (.done (by kernel_rfl)) lodfqParts_10 FdfqParts_10 ?_) (.done (by kernel_rfl))) FdfqParts ?_
  · rintro ⟨⟨(n : Int), (xs : List tfqPart.den), (i : Int), ⟨⟩⟩, ⟨⟨(v : Int), (e : Int), ⟨⟩⟩, ⟨(b : List Int), (p : Int), ⟨⟩⟩, ⟨⟨⟩, ⟨⟩⟩⟩⟩ y hw hy
    obtain ⟨hg, hy⟩ := Tr.guard hy
    simp only [Bool.and_eq_true, decide_eq_true_eq, Bool.or_eq_true] at hg
    obtain ⟨h1, h2, h3, h4⟩ := hg
    have h1 : i = 0 := h1
    have h2 : xs = [] := List.eq_nil_of_length_eq_zero h2
    have h3 : spDok b p = true := h3
    have h4 : n ≤ 16 ∨ e ≠ 0 := h4
    subst h1
    subst h2
    refine ⟨n.toNat + 1, (loopdfqParts n v b (n.toNat + 1) 0 [] (e, p) (by omega) (by omega) rfl h3 (fun he => h4.resolve_right (fun h => h he))).trans ?_⟩
    rw [← hy]; rfl
  · rintro ⟨⟨⟨⟩, ⟨⟩, ⟨⟩⟩, ⟨⟨⟩, (v : Int), (e : Int), ⟨⟩⟩, ⟨(b : List Int), (p : Int), ⟨⟩⟩, ⟨⟨⟩, ⟨⟩⟩, ⟨⟩⟩ out hw ho
    obtain ⟨hg, ho⟩ := Tr.guard ho
    have hg : spDok b p = true := hg
    cases ho
    refine (rundfqParts v e b p).trans ?_
    unfold bodydfqParts
    show _ = some (Out.ret (((spfqPsD v b (e, p)).1, ()), decOutC v b (spfqPsD v b (e, p)).2))
    unfold spfqPsD spList
    refine (bif_true hg _ _).trans ?_
    have hr : spDok b (spDn .i32 4 b (e, p)).2.2 = true := spDn_ok .i32 4 (s := (e, p)) hg
    generalize spDn .i32 4 b (e, p) = r at hr ⊢
    obtain ⟨n, e1, q⟩ := r
    have hr : spDok b q = true := hr
    have key : ∀ e' : Int, (e' = 0 → n ≤ 16) → FdfqParts_10 ((n, ([], (0, ()))), ((v, (e', ())), ((b, (q, ())), ((), ())))) = .ite true (.ret (.ret ((), (((spRep (spfqPD v b) n.toNat (e', q)).1, ()), decOutB v b (spRep (spfqPD v b) n.toNat (e', q)).2)))) .no := by
      intro e' he
      refine congrArg (fun c => Tr.ite c _ _) ?_
      show (decide ((0 : Int) = 0) && (decide (([] : List tfqPart.den).length = 0) && (spDok b q && (decide (n ≤ 16) || decide (e' ≠ 0))))) = true
      rw [hr]
      by_cases h : e' = 0
      · simp [he h]
      · simp [h]
    unfold spLen
    show (bif e1 != 0 then _ else _) = _
    by_cases h1 : e1 = 0
    · refine (bif_false (by simpa using h1) _ _).trans ?_
      show (bif decide (n < 0) then _ else _) = _
      rw [if_pos h1]
      by_cases h2 : n < 0
      · refine (bif_true (by simpa using h2) _ _).trans ?_
        show (FdfqParts_10 ((n, ([], (0, ()))), ((v, (5, ())), ((b, (q, ())), ((), ()))))).run _ = _
        rw [key 5 (by omega), if_pos h2]
        rfl
      · refine (bif_false (by simpa using h2) _ _).trans ?_
        show (bif decide (16 < n) then _ else _) = _
        rw [if_neg h2]
        by_cases h3 : 16 < n
        · refine (bif_true (by simpa using h3) _ _).trans ?_
          show (FdfqParts_10 ((n, ([], (0, ()))), ((v, (9, ())), ((b, (q, ())), ((), ()))))).run _ = _
          rw [key 9 (by omega), if_pos h3]
          rfl
        · refine (bif_false (by simpa using h3) _ _).trans ?_
          show (FdfqParts_10 ((n, ([], (0, ()))), ((v, (e1, ())), ((b, (q, ())), ((), ()))))).run _ = _
          rw [key e1 (by omega), if_neg h3]
          rfl
    · refine (bif_true (by simpa using h1) _ _).trans ?_
      show (FdfqParts_10 ((n, ([], (0, ()))), ((v, (e1, ())), ((b, (q, ())), ((), ()))))).run _ = _
      rw [key e1 (fun h => absurd h h1), if_neg h1]
      rfl
@[irreducible] noncomputable def spfqTD (v : Int) (b : List Int) (s : DeS) : tfqTopic.den × DeS := (((spDStr b s).1, ((spfqPsD v b (spDStr b s).2).1, ())), (spfqPsD v b (spDStr b s).2).2)
theorem spfqTD_ok {v : Int} {b : List Int} {s : DeS} (h : spDok b s.2 = true) : spDok b (spfqTD v b s).2.2 = true := by
  unfold spfqTD
  exact spfqPsD_ok (spDStr_ok h)
abbrev iodfqTopic : Io := ⟨[.ptr 0 0], oDec1, [], [.dat tfqTopic true false], none⟩
def FdfqTopic (d : iodfqTopic.In) : Tr iodfqTopic.Res := .ite (spDok d.2.2.2.1.1 d.2.2.2.1.2.1) (.ret (.ret (((spfqTD d.2.2.1.2.1 d.2.2.2.1.1 (decSt d.2.2)).1, ()), decOut1 d.2.2.1.2.1 d.2.2.2.1.1 (spfqTD d.2.2.1.2.1 d.2.2.2.1.1 (decSt d.2.2)).2))) .no
abbrev csdfqTopic : List (Nat × Hc) := [(84, ioHd iodStr FdStr), (116, ioHd iodfqParts FdfqParts)]
def hddfqTopic : Hd := hdT csdfqTopic
def lpdfqTopic : Lp := lpT []
def bodydfqTopic (a0 : Int) (a1 : Int) (a2 : List Int) (a3 : Int) : Option iodfqTopic.Res := bif spDok a2 a3 then bif spDok a2 (spDStr a2 (a1, a3)).snd.snd then some (Out.ret ((((spDStr a2 (a1, a3)).fst, (spfqPsD a0 a2 (spDStr a2 (a1, a3)).snd).fst, ()), ()), ((), ()), ((), a0, (spfqPsD a0 a2 (spDStr a2 (a1, a3)).snd).snd.fst, ()), (a2, (spfqPsD a0 a2 (spDStr a2 (a1, a3)).snd).snd.snd, ()), ())) else none else none
theorem rundfqTopic (a0 : Int) (a1 : Int) (a2 : List Int) (a3 : Int) : Io.run tt hddfqTopic dr lpdfqTopic iodfqTopic Go.Proofs.Tryz.f115 (((), ()), ((), ()), ((), a0, a1, ()), (a2, a3, ()), ()) = bodydfqTopic a0 a1 a2 a3 := by kernel_rfl
theorem okdfqTopic : HcOk prog 115 (ioHd iodfqTopic FdfqTopic) := by
  refine fn_sound (n := 400) hm (cs := csdfqTopic) (.cons okdStr (.cons okdfqParts .nil)) (lp := lpdfqTopic) (fn := Go.Proofs.Tryz.f115) (by kernel_rfl) (by kernel_rfl) (by kernel_rfl) iodfqTopic (.done (by kernel_rfl)) FdfqTopic ?_
  rintro ⟨⟨⟨⟩, ⟨⟩⟩, ⟨⟨⟩, ⟨⟩⟩, ⟨⟨⟩, (v : Int), (e : Int), ⟨⟩⟩, ⟨(b : List Int), (p : Int), ⟨⟩⟩, ⟨⟩⟩ out hw ho
  obtain ⟨hg, ho⟩ := Tr.guard ho
  have hg : spDok b p = true := hg
  cases ho
  refine (rundfqTopic v e b p).trans ?_
  unfold bodydfqTopic
  show _ = some (Out.ret (((spfqTD v b (e, p)).1, ()), decOut1 v b (spfqTD v b (e, p)).2))
  unfold spfqTD
  refine (bif_true hg _ _).trans ?_
  exact bif_true (spDStr_ok (s := (e, p)) hg) _ _
@[irreducible] noncomputable def spfqTsD (v : Int) (b : List Int) (s : DeS) : List tfqTopic.den × DeS := spList (spfqTD v b) b s
theorem spfqTsD_ok {v : Int} {b : List Int} {s : DeS} (h : spDok b s.2 = true) : spDok b (spfqTsD v b s).2.2 = true := by
  unfold spfqTsD
  exact spList_ok (fun s h => spfqTD_ok h) h
abbrev iodfqTopics : Io := ⟨[.ptr 0 0, .fnc 115 false [2]], oDecC, [], [.dat (.sl 158 tfqTopic) false false], none⟩
def FdfqTopics (d : iodfqTopics.In) : Tr iodfqTopics.Res := .ite (spDok d.2.2.1.1 d.2.2.1.2.1) (.ret (.ret (((spfqTsD d.2.1.2.1 d.2.2.1.1 (decStC d.2)).1, ()), decOutC d.2.1.2.1 d.2.2.1.1 (spfqTsD d.2.1.2.1 d.2.2.1.1 (decStC d.2)).2))) .no
abbrev csdfqTopics : List (Nat × Hc) := [(81, ioHd iodI32 FdI32), (115, ioHd iodfqTopic FdfqTopic)]
def hddfqTopics : Hd := hdT csdfqTopics
abbrev lodfqTopics_10 : Lo := ⟨⟨[.one (.ptr 0 0), .one (.fnp 115 false [2]), .any, .any, .any, .one (.hol (.int IntKind.i32)), .one (.onl 158 tfqTopic 19), .one (.hol (.int IntKind.i32)), .any, .any, .any, .any, .any, .any, .any, .any, .any, .any, .any, .any, .any, .any, .any, .any, .any, .any, .any, .any, .any, .any, .any, .any, .any, .any, .any, .any, .any, .any, .any, .any, .any, .any, .any, .any, .any, .any], [some [.ptr 1 0, .hol (.int IntKind.i64), .hol (.int IntKind.i64)], some [.hol (.sl 5 (Ty.int IntKind.u8)), .hol (.int IntKind.i64)], some [.ptr 0 0]]⟩, [(.exit 1, ⟨[.any, .any, .any, .any, .any, .any, .one (.onl 158 tfqTopic 19), .any, .any, .any, .any, .any, .any, .any, .any, .any, .any, .any, .any, .any, .any, .any, .any, .any, .any, .any, .any, .any, .any, .any, .any, .any, .any, .any, .any, .any, .any, .any, .any, .any, .any, .any, .any, .any, .any, .any], [some [.ptr 1 0, .hol (.int IntKind.i64), .hol (.int IntKind.i64)], some [.hol (.sl 5 (Ty.int IntKind.u8)), .hol (.int IntKind.i64)], some [.ptr 0 0]]⟩)]⟩
-- FdfqTopics_10 : lodfqTopics_10.st.den → Tr (DenX lodfqTopics_10.xs) | ((h4, (h5, (h6, ()))), ((h7, (h8, ())), ((h9, (h10, ())), ((), ()))))
def FdfqTopics_10 (d : lodfqTopics_10.st.den) : Tr (DenX lodfqTopics_10.xs) :=
  .ite (decide (d.1.2.2.1 = 0) && (decide (d.1.2.1.length = 0) && (spDok d.2.2.1.1 d.2.2.1.2.1 && (decide (d.1.1 ≤ (16 : Int)) || decide (d.2.1.2.1 ≠ 0))))) (.ret (.ret ((), (((spRep (spfqTD d.2.1.1 d.2.2.1.1) d.1.1.toNat (d.2.1.2.1, d.2.2.1.2.1)).1, ()), decOutB d.2.1.1 d.2.2.1.1 (spRep (spfqTD d.2.1.1 d.2.2.1.1) d.1.1.toNat (d.2.1.2.1, d.2.2.1.2.1)).2)))) .no
def lpdfqTopics : Lp := lpT [(10, loHd lodfqTopics_10 FdfqTopics_10)]
def stepdfqTopics_10 {R : Type} (h4 : Int) (h5 : List tfqTopic.den) (h6 : Int) (h7 : Int) (h8 : Int) (h9 : List Int) (h10 : Int) (next : Int → List tfqTopic.den → Int → Int → Int → List Int → Int → Option R) (out : DenX lodfqTopics_10.xs → Option R) : Option R := bif decide (h6 < h4) then bif h8 == 0 then bif spDok h9 h10 then bif decide (h5.length + 1 ≤ 4294967296) then next (h4) (h5 ++ [(spfqTD h7 h9 (h8, h10)).fst]) (IntKind.i32.wrap (h6 + 1)) (h7) ((spfqTD h7 h9 (h8, h10)).snd.fst) (h9) ((spfqTD h7 h9 (h8, h10)).snd.snd) else none else none else out (.ret ((), ((h5, ()), ((h7, (h8, ())), ((h9, (h10, ())), ((), ())))))) else out (.ret ((), ((h5, ()), ((h7, (h8, ())), ((h9, (h10, ())), ((), ()))))))
def itdfqTopics_10 (n : Nat) (h4 : Int) (h5 : List tfqTopic.den) (h6 : Int) (h7 : Int) (h8 : Int) (h9 : List Int) (h10 : Int) : Option (DenX lodfqTopics_10.xs) := lpN tt hddfqTopics dr lpdfqTopics 3 Go.Proofs.Tryz.f114 (topL Go.Proofs.Tryz.f114 0) n (lodfqTopics_10.st.mk' ((h4, (h5, (h6, ()))), ((h7, (h8, ())), ((h9, (h10, ())), ((), ()))))) (decX lodfqTopics_10.xs)
theorem sldfqTopics_10 (n : Nat) (h4 : Int) (h5 : List tfqTopic.den) (h6 : Int) (h7 : Int) (h8 : Int) (h9 : List Int) (h10 : Int) : itdfqTopics_10 (n + 1) h4 h5 h6 h7 h8 h9 h10 = stepdfqTopics_10 h4 h5 h6 h7 h8 h9 h10 (itdfqTopics_10 n) some := by kernel_rfl
theorem loopdfqTopics (n v : Int) (b : List Int) : ∀ (k j : Nat) (xs : List tfqTopic.den) (s : DeS), n.toNat < j + k → j ≤ n.toNat → xs.length = j → spDok b s.2 = true → (s.1 = 0 → n ≤ 16) →
    itdfqTopics_10 k n xs j v s.1 b s.2 = some (.ret ((), ((xs ++ (spRep (spfqTD v b) (n.toNat - j) s).1, ()), decOutB v b (spRep (spfqTD v b) (n.toNat - j) s).2))) := by
  intro k
  induction k with
  | zero => intro j xs s h; omega
  | succ k ih =>
    intro j xs s h1 h2 h3 h4 h5
    rw [sldfqTopics_10]
    unfold stepdfqTopics_10
    by_cases hj : (j : Int) < n
    · refine (bif_true (by simpa using hj) _ _).trans ?_
      obtain ⟨m, hm⟩ : ∃ m, n.toNat - j = m + 1 := ⟨n.toNat - j - 1, by omega⟩
      rw [hm]
      by_cases he : s.1 = 0
      · refine (bif_true (by simpa using he) _ _).trans ?_
        have hn := h5 he
        refine (bif_true h4 _ _).trans ?_
        refine (bif_true (decide_eq_true (show xs.length + 1 ≤ 4294967296 by omega)) _ _).trans ?_
        have hw : IntKind.i32.wrap ((j : Int) + 1) = ((j + 1 : Nat) : Int) := wrap_id (by simp [inR, IntKind.min, IntKind.max, IntKind.signed, IntKind.bits]; omega)
        rw [hw]
        refine (ih (j + 1) (xs ++ [(spfqTD v b s).1]) (spfqTD v b s).2 (by omega) (by omega) (by simp [h3]) (spfqTD_ok h4) (fun _ => hn)).trans ?_
        rw [show n.toNat - (j + 1) = m by omega, spRep, if_pos he]
        simp
      · refine (bif_false (by simpa using he) _ _).trans ?_
        rw [spRep, if_neg he]
        simp
    · refine (bif_false (by simpa using hj) _ _).trans ?_
      rw [show n.toNat - j = 0 by omega, spRep]
      simp
def bodydfqTopics (a0 : Int) (a1 : Int) (a2 : List Int) (a3 : Int) : Option iodfqTopics.Res := bif spDok a2 a3 then bif (spDn IntKind.i32 4 a2 (a1, a3)).snd.fst != 0 then (FdfqTopics_10 (((spDn IntKind.i32 4 a2 (a1, a3)).fst, ([], (0, ()))), ((a0, ((spDn IntKind.i32 4 a2 (a1, a3)).snd.fst, ())), ((a2, ((spDn IntKind.i32 4 a2 (a1, a3)).snd.snd, ())), ((), ()))))).run fun y => match y with | .ret ((), ((x28, ()), (x29, x30, ()), (x31, x32, ()), (), ())) => (some (Out.ret ((x28, ()), ((), x29, x30, ()), (x31, x32, ()), ((), ()), ()))) else bif decide ((spDn IntKind.i32 4 a2 (a1, a3)).fst < 0) then (FdfqTopics_10 (((spDn IntKind.i32 4 a2 (a1, a3)).fst, ([], (0, ()))), ((a0, (5, ())), ((a2, ((spDn IntKind.i32 4 a2 (a1, a3)).snd.snd, ())), ((), ()))))).run fun y => match y with | .ret ((), ((x40, ()), (x41, x42, ()), (x43, x44, ()), (), ())) => (some (Out.ret ((x40, ()), ((), x41, x42, ()), (x43, x44, ()), ((), ()), ()))) else bif decide (16 < (spDn IntKind.i32 4 a2 (a1, a3)).fst) then (FdfqTopics_10 (((spDn IntKind.i32 4 a2 (a1, a3)).fst, ([], (0, ()))), ((a0, (9, ())), ((a2, ((spDn IntKind.i32 4 a2 (a1, a3)).snd.snd, ())), ((), ()))))).run fun y => match y with | .ret ((), ((x52, ()), (x53, x54, ()), (x55, x56, ()), (), ())) => (some (Out.ret ((x52, ()), ((), x53, x54, ()), (x55, x56, ()), ((), ()), ()))) else (FdfqTopics_10 (((spDn IntKind.i32 4 a2 (a1, a3)).fst, ([], (0, ()))), ((a0, ((spDn IntKind.i32 4 a2 (a1, a3)).snd.fst, ())), ((a2, ((spDn IntKind.i32 4 a2 (a1, a3)).snd.snd, ())), ((), ()))))).run fun y => match y with | .ret ((), ((x64, ()), (x65, x66, ()), (x67, x68, ()), (), ())) => (some (Out.ret ((x64, ()), ((), x65, x66, ()), (x67, x68, ()), ((), ()), ()))) else none
theorem rundfqTopics (a0 : Int) (a1 : Int) (a2 : List Int) (a3 : Int) : Io.run tt hddfqTopics dr lpdfqTopics iodfqTopics Go.Proofs.Tryz.f114 (((), (), ()), ((), a0, a1, ()), (a2, a3, ()), ((), ()), ()) = bodydfqTopics a0 a1 a2 a3 := by kernel_rfl
theorem okdfqTopics : HcOk prog 114 (ioHd iodfqTopics FdfqTopics) := by
  refine fn_sound (n := 400) hm (cs := csdfqTopics) (.cons okdI32 (.cons okdfqTopic .nil)) (lp := lpdfqTopics) (fn := Go.Proofs.Tryz.f114) (by kernel_rfl) (by kernel_rfl) (by kernel_rfl) iodfqTopics (.step (h0 := loHd lodfqTopics_10 FdfqTopics_10) (by kernel_rfl) (loop_sound (n := 400) hm (cs := csdfqTopics) (.cons okdI32 (.cons okdfqTopic .nil)) (lp := lpdfqTopics) (fn := Go.Proofs.Tryz.f114) (.done (by kernel_rfl)) lodfqTopics_10 FdfqTopics_10 ?_) (.done (by kernel_rfl))) FdfqTopics ?_
  · rintro ⟨⟨(n : Int), (xs : List tfqTopic.den), (i : Int), ⟨⟩⟩, ⟨⟨(v : Int), (e : Int), ⟨⟩⟩, ⟨(b : List Int), (p : Int), ⟨⟩⟩, ⟨⟨⟩, ⟨⟩⟩⟩⟩ y hw hy
    obtain ⟨hg, hy⟩ := Tr.guard hy
    simp only [Bool.and_eq_true, decide_eq_true_eq, Bool.or_eq_true] at hg
    obtain ⟨h1, h2, h3, h4⟩ := hg
    have h1 : i = 0 := h1
    have h2 : xs = [] := List.eq_nil_of_length_eq_zero h2
    have h3 : spDok b p = true := h3
    have h4 : n ≤ 16 ∨ e ≠ 0 := h4
    subst h1
    subst h2
    refine ⟨n.toNat + 1, (loopdfqTopics n v b (n.toNat + 1) 0 [] (e, p) (by omega) (by omega) rfl h3 (fun he => h4.resolve_right (fun h => h he))).trans ?_⟩
    rw [← hy]; rfl
  · rintro ⟨⟨⟨⟩, ⟨⟩, ⟨⟩⟩, ⟨⟨⟩, (v : Int), (e : Int), ⟨⟩⟩, ⟨(b : List Int), (p : Int), ⟨⟩⟩, ⟨⟨⟩, ⟨⟩⟩, ⟨⟩⟩ out hw ho
    obtain ⟨hg, ho⟩ := Tr.guard ho
    have hg : spDok b p = true := hg
    cases ho
    refine (rundfqTopics v e b p).trans ?_
    unfold bodydfqTopics
    show _ = some (Out.ret (((spfqTsD v b (e, p)).1, ()), decOutC v b (spfqTsD v b (e, p)).2))
    unfold spfqTsD spList
    refine (bif_true hg _ _).trans ?_
    have hr : spDok b (spDn .i32 4 b (e, p)).2.2 = true := spDn_ok .i32 4 (s := (e, p)) hg
    generalize spDn .i32 4 b (e, p) = r at hr ⊢
    obtain ⟨n, e1, q⟩ := r
    have hr : spDok b q = true := hr
    have key : ∀ e' : Int, (e' = 0 → n ≤ 16) → FdfqTopics_10 ((n, ([], (0, ()))), ((v, (e', ())), ((b, (q, ())), ((), ())))) = .ite true (.ret (.ret ((), (((spRep (spfqTD v b) n.toNat (e', q)).1, ()), decOutB v b (spRep (spfqTD v b) n.toNat (e', q)).2)))) .no := by
      intro e' he
      refine congrArg (fun c => Tr.ite c _ _) ?_
      show (decide ((0 : Int) = 0) && (decide (([] : List tfqTopic.den).length = 0) && (spDok b q && (decide (n ≤ 16) || decide (e' ≠ 0))))) = true
      rw [hr]
      by_cases h : e' = 0
      · simp [he h]
      · simp [h]
    unfold spLen
    show (bif e1 != 0 then _ else _) = _
    by_cases h1 : e1 = 0
    · refine (bif_false (by simpa using h1) _ _).trans ?_
      show (bif decide (n < 0) then _ else _) = _
      rw [if_pos h1]
      by_cases h2 : n < 0
      · refine (bif_true (by simpa using h2) _ _).trans ?_
        show (FdfqTopics_10 ((n, ([], (0, ()))), ((v, (5, ())), ((b, (q, ())), ((), ()))))).run _ = _
        rw [key 5 (by omega), if_pos h2]
        rfl
      · refine (bif_false (by simpa using h2) _ _).trans ?_
        show (bif decide (16 < n) then _ else _) = _
        rw [if_neg h2]
        by_cases h3 : 16 < n
        · refine (bif_true (by simpa using h3) _ _).trans ?_
          show (FdfqTopics_10 ((n, ([], (0, ()))), ((v, (9, ())), ((b, (q, ())), ((), ()))))).run _ = _
          rw [key 9 (by omega), if_pos h3]
          rfl
        · refine (bif_false (by simpa using h3) _ _).trans ?_
          show (FdfqTopics_10 ((n, ([], (0, ()))), ((v, (e1, ())), ((b, (q, ())), ((), ()))))).run _ = _
          rw [key e1 (by omega), if_neg h3]
          rfl
    · refine (bif_true (by simpa using h1) _ _).trans ?_
      show (FdfqTopics_10 ((n, ([], (0, ()))), ((v, (e1, ())), ((b, (q, ())), ((), ()))))).run _ = _
      rw [key e1 (fun h => absurd h h1), if_neg h1]
      rfl
abbrev iodfqTopicsZ : Io := ⟨[.ptr 0 0, .fnc 115 false [1]], oDecCZ, [], [.dat (.sl 158 tfqTopic) false false], none⟩
def FdfqTopicsZ (d : iodfqTopicsZ.In) : Tr iodfqTopicsZ.Res := .ite (decide (d.2.1.2.2.1 ≠ 0)) (.ret (.ret ((([] : List tfqTopic.den), ()), d.2))) .no
abbrev csdfqTopicsZ : List (Nat × Hc) := [(81, orHd deadB (ioHd iodI32Z FdI32Z) (ioHd iodI32 FdI32))]
def hddfqTopicsZ : Hd := hdT csdfqTopicsZ
abbrev lodfqTopicsZ_10 : Lo := ⟨⟨[.one (.ptr 0 0), .one (.fnp 115 false [1]), .any, .any, .any, .one (.hol (.int IntKind.i32)), .one (.onl 158 tfqTopic 17), .one (.hol (.int IntKind.i32)), .any, .any, .any, .any, .any, .any, .any, .any, .any, .any, .any, .any, .any, .any, .any, .any, .any, .any, .any, .any, .any, .any, .any, .any, .any, .any, .any, .any, .any, .any, .any, .any, .any, .any, .any, .any, .any, .any], [some [.nilp, .hol (.int IntKind.i64), .hol (.int IntKind.i64)], some [.ptr 0 0]]⟩, [(.exit 1, ⟨[.any, .any, .any, .any, .any, .any, .one (.onl 158 tfqTopic 17), .any, .any, .any, .any, .any, .any, .any, .any, .any, .any, .any, .any, .any, .any, .any, .any, .any, .any, .any, .any, .any, .any, .any, .any, .any, .any, .any, .any, .any, .any, .any, .any, .any, .any, .any, .any, .any, .any, .any], [some [.nilp, .hol (.int IntKind.i64), .hol (.int IntKind.i64)], some [.ptr 0 0]]⟩)]⟩
-- FdfqTopicsZ_10 : lodfqTopicsZ_10.st.den → Tr (DenX lodfqTopicsZ_10.xs) | ((h2, (h3, (h4, ()))), ((h5, (h6, ())), ((), ())))
def FdfqTopicsZ_10 (d : lodfqTopicsZ_10.st.den) : Tr (DenX lodfqTopicsZ_10.xs) :=
  .ite (decide (d.2.1.2.1 ≠ 0)) (.ret (.ret ((), ((d.1.2.1, ()), d.2)))) .no
def lpdfqTopicsZ : Lp := lpT [(10, loHd lodfqTopicsZ_10 FdfqTopicsZ_10)]
def stepdfqTopicsZ_10 {R : Type} (h2 : Int) (h3 : List tfqTopic.den) (h4 : Int) (h5 : Int) (h6 : Int) (next : Int → List tfqTopic.den → Int → Int → Int → Option R) (out : DenX lodfqTopicsZ_10.xs → Option R) : Option R := bif decide (h4 < h2) then bif h6 == 0 then none else out (.ret ((), ((h3, ()), ((h5, (h6, ())), ((), ()))))) else out (.ret ((), ((h3, ()), ((h5, (h6, ())), ((), ())))))
def itdfqTopicsZ_10 (n : Nat) (h2 : Int) (h3 : List tfqTopic.den) (h4 : Int) (h5 : Int) (h6 : Int) : Option (DenX lodfqTopicsZ_10.xs) := lpN tt hddfqTopicsZ dr lpdfqTopicsZ 2 Go.Proofs.Tryz.f114 (topL Go.Proofs.Tryz.f114 0) n (lodfqTopicsZ_10.st.mk' ((h2, (h3, (h4, ()))), ((h5, (h6, ())), ((), ())))) (decX lodfqTopicsZ_10.xs)
theorem sldfqTopicsZ_10 (n : Nat) (h2 : Int) (h3 : List tfqTopic.den) (h4 : Int) (h5 : Int) (h6 : Int) : itdfqTopicsZ_10 (n + 1) h2 h3 h4 h5 h6 = stepdfqTopicsZ_10 h2 h3 h4 h5 h6 (itdfqTopicsZ_10 n) some := by kernel_rfl
def bodydfqTopicsZ (a0 : Int) (a1 : Int) : Option iodfqTopicsZ.Res := bif decide (a1 ≠ 0) then bif a1 != 0 then (FdfqTopicsZ_10 ((0, ([], (0, ()))), ((a0, (a1, ())), ((), ())))).run fun y => match y with | .ret ((), ((x13, ()), (x14, x15, ()), (), ())) => (some (Out.ret ((x13, ()), ((), x14, x15, ()), ((), ()), ()))) else (FdfqTopicsZ_10 ((0, ([], (0, ()))), ((a0, (a1, ())), ((), ())))).run fun y => match y with | .ret ((), ((x21, ()), (x22, x23, ()), (), ())) => (some (Out.ret ((x21, ()), ((), x22, x23, ()), ((), ()), ()))) else none
theorem rundfqTopicsZ (a0 : Int) (a1 : Int) : Io.run tt hddfqTopicsZ dr lpdfqTopicsZ iodfqTopicsZ Go.Proofs.Tryz.f114 (((), (), ()), ((), a0, a1, ()), ((), ()), ()) = bodydfqTopicsZ a0 a1 := by kernel_rfl
theorem okdfqTopicsZ : HcOk prog 114 (ioHd iodfqTopicsZ FdfqTopicsZ) := by
  refine fn_sound (n := 400) hm (cs := csdfqTopicsZ) (.cons (or_sound okdI32Z okdI32) .nil) (lp := lpdfqTopicsZ) (fn := Go.Proofs.Tryz.f114) (by kernel_rfl) (by kernel_rfl) (by kernel_rfl) iodfqTopicsZ (.step (h0 := loHd lodfqTopicsZ_10 FdfqTopicsZ_10) (by kernel_rfl) (loop_sound (n := 400) hm (cs := csdfqTopicsZ) (.cons (or_sound okdI32Z okdI32) .nil) (lp := lpdfqTopicsZ) (fn := Go.Proofs.Tryz.f114) (.done (by kernel_rfl)) lodfqTopicsZ_10 FdfqTopicsZ_10 ?_) (.done (by kernel_rfl))) FdfqTopicsZ ?_
  · rintro ⟨⟨(n : Int), (xs : List tfqTopic.den), (i : Int), ⟨⟩⟩, ⟨⟨(v : Int), (e : Int), ⟨⟩⟩, ⟨⟨⟩, ⟨⟩⟩⟩⟩ y hw hy
    obtain ⟨hg, hy⟩ := Tr.guard hy
    have hg : e ≠ 0 := of_decide_eq_true hg
    refine ⟨1, (sldfqTopicsZ_10 0 n xs i v e).trans ?_⟩
    unfold stepdfqTopicsZ_10
    rw [← hy]
    by_cases h : i < n
    · refine (bif_true (by simpa using h) _ _).trans ?_
      exact bif_false (by simpa using hg) _ _
    · exact bif_false (by simpa using h) _ _
  · rintro ⟨⟨⟨⟩, ⟨⟩, ⟨⟩⟩, ⟨⟨⟩, (v : Int), (e : Int), ⟨⟩⟩, ⟨⟨⟩, ⟨⟩⟩, ⟨⟩⟩ out hw ho
    obtain ⟨hg, ho⟩ := Tr.guard ho
    have hg : e ≠ 0 := of_decide_eq_true hg
    cases ho
    refine (rundfqTopicsZ v e).trans ?_
    unfold bodydfqTopicsZ
    have e1 : FdfqTopicsZ_10 ((0, ([], (0, ()))), ((v, (e, ())), ((), ()))) = .ite true (.ret (.ret ((), ((([] : List tfqTopic.den), ()), ((v, (e, ())), ((), ())))))) .no := congrArg (fun c => Tr.ite c _ _) (decide_eq_true hg)
    refine (bif_true (by simpa using hg) _ _).trans ?_
    refine (bif_true (by simpa using hg) _ _).trans ?_
    rw [e1]
    rfl
def spfqZ : tfqMsg.den := (0, (0, (0, (0, (0, (([] : List tfqTopic.den), ()))))))
def spfqDB (v : Int) (b : List Int) (s : DeS) : tfqMsg.den × DeS :=
  (((spDn .i32 4 b s).1, ((spDn .i32 4 b (spDn .i32 4 b s).2).1, ((spDn .i32 4 b (spDn .i32 4 b (spDn .i32 4 b s).2).2).1, ((spDHasN .i32 4 v 1 3 b (spDn .i32 4 b (spDn .i32 4 b (spDn .i32 4 b s).2).2).2).1, ((spDHasN .i8 1 v 2 3 b (spDHasN .i32 4 v 1 3 b (spDn .i32 4 b (spDn .i32 4 b (spDn .i32 4 b s).2).2).2).2).1, ((spfqTsD v b (spDHasN .i8 1 v 2 3 b (spDHasN .i32 4 v 1 3 b (spDn .i32 4 b (spDn .i32 4 b (spDn .i32 4 b s).2).2).2).2).2).1, ())))))), (spfqTsD v b (spDHasN .i8 1 v 2 3 b (spDHasN .i32 4 v 1 3 b (spDn .i32 4 b (spDn .i32 4 b (spDn .i32 4 b s).2).2).2).2).2).2)
def spfqD (v : Int) (b : List Int) : tfqMsg.den × Int := if 0 ≤ v ∧ v ≤ 3 ∧ (b.length : Int) ≤ 130048 then (if spDEnd b (spfqDB v b (0, 0)).2 = 0 then ((spfqDB v b (0, 0)).1, 0) else (spfqZ, spDEnd b (spfqDB v b (0, 0)).2)) else (spfqZ, spNewD v)
abbrev iodfqMsg : Io := ⟨[dI, dL], [], [], [.dat tfqMsg true false, dI], none⟩
def FdfqMsg (d : iodfqMsg.In) : Tr iodfqMsg.Res := .ret (.ret (((spfqD d.1.1 d.1.2.1).1, ((spfqD d.1.1 d.1.2.1).2, ())), ()))
abbrev csdfqMsg : List (Nat × Hc) := [(79, orHd newBad (ioHd iodNewZ FdNewZ) (ioHd iodNew FdNew)), (80, orHd deadB (ioHd iodHasZ FdHasZ) (ioHd iodHas FdHas)), (81, orHd deadB (ioHd iodI32Z FdI32Z) (ioHd iodI32 FdI32)), (91, orHd deadB (ioHd iodI8Z FdI8Z) (ioHd iodI8 FdI8)), (114, orHd deadB (ioHd iodfqTopicsZ FdfqTopicsZ) (ioHd iodfqTopics FdfqTopics)), (90, orHd deadB (ioHd iodEndZ FdEndZ) (ioHd iodEnd FdEnd))]
def hddfqMsg : Hd := hdT csdfqMsg
def lpdfqMsg : Lp := lpT []
def bodydfqMsg (a0 : Int) (a1 : List Int) : Option iodfqMsg.Res := bif !(decide (0 ≤ a0) && (decide (a0 ≤ 3) && decide ((↑a1.length : Int) ≤ 130048))) then bif decide (0 ≤ a0) && (decide (a0 ≤ 3) && decide ((↑a1.length : Int) ≤ 130048)) then none else bif decide (spNewD a0 ≠ 0) then bif decide (spNewD a0 ≠ 0) then bif decide (spNewD a0 ≠ 0) then bif decide (spNewD a0 ≠ 0) then bif decide (spNewD a0 ≠ 0) then bif decide (spNewD a0 ≠ 0) then bif decide (spNewD a0 ≠ 0) then bif spNewD a0 != 0 then some (Out.ret (((0, 0, 0, 0, 0, [], ()), spNewD a0, ()), ())) else some (Out.ret (((0, 0, 0, 0, 0, [], ()), 0, ()), ())) else none else none else none else none else none else none else none else bif decide (0 ≤ a0) && (decide (a0 ≤ 3) && decide ((↑a1.length : Int) ≤ 130048)) then bif spDok a1 0 then bif spDok a1 (spRd a1 0 4).snd.fst then bif spDok a1 (spDn IntKind.i32 4 a1 ((spRd a1 0 4).snd.snd, (spRd a1 0 4).snd.fst)).snd.snd then bif spDHas a0 1 3 (spDn IntKind.i32 4 a1 (spDn IntKind.i32 4 a1 ((spRd a1 0 4).snd.snd, (spRd a1 0 4).snd.fst)).snd).snd.fst then bif spDok a1 (spDn IntKind.i32 4 a1 (spDn IntKind.i32 4 a1 ((spRd a1 0 4).snd.snd, (spRd a1 0 4).snd.fst)).snd).snd.snd then bif spDHas a0 2 3 (spDn IntKind.i32 4 a1 (spDn IntKind.i32 4 a1 (spDn IntKind.i32 4 a1 ((spRd a1 0 4).snd.snd, (spRd a1 0 4).snd.fst)).snd).snd).snd.fst then bif spDok a1 (spDn IntKind.i32 4 a1 (spDn IntKind.i32 4 a1 (spDn IntKind.i32 4 a1 ((spRd a1 0 4).snd.snd, (spRd a1 0 4).snd.fst)).snd).snd).snd.snd then bif spDok a1 (spDn IntKind.i8 1 a1 (spDn IntKind.i32 4 a1 (spDn IntKind.i32 4 a1 (spDn IntKind.i32 4 a1 ((spRd a1 0 4).snd.snd, (spRd a1 0 4).snd.fst)).snd).snd).snd).snd.snd then bif spDEnd a1 (spfqTsD a0 a1 (spDn IntKind.i8 1 a1 (spDn IntKind.i32 4 a1 (spDn IntKind.i32 4 a1 (spDn IntKind.i32 4 a1 ((spRd a1 0 4).snd.snd, (spRd a1 0 4).snd.fst)).snd).snd).snd).snd).snd != 0 then some (Out.ret (((0, 0, 0, 0, 0, [], ()), spDEnd a1 (spfqTsD a0 a1 (spDn IntKind.i8 1 a1 (spDn IntKind.i32 4 a1 (spDn IntKind.i32 4 a1 (spDn IntKind.i32 4 a1 ((spRd a1 0 4).snd.snd, (spRd a1 0 4).snd.fst)).snd).snd).snd).snd).snd, ()), ())) else some (Out.ret (((IntKind.i32.wrap (spRd a1 0 4).fst, (spDn IntKind.i32 4 a1 ((spRd a1 0 4).snd.snd, (spRd a1 0 4).snd.fst)).fst, (spDn IntKind.i32 4 a1 (spDn IntKind.i32 4 a1 ((spRd a1 0 4).snd.snd, (spRd a1 0 4).snd.fst)).snd).fst, (spDn IntKind.i32 4 a1 (spDn IntKind.i32 4 a1 (spDn IntKind.i32 4 a1 ((spRd a1 0 4).snd.snd, (spRd a1 0 4).snd.fst)).snd).snd).fst, (spDn IntKind.i8 1 a1 (spDn IntKind.i32 4 a1 (spDn IntKind.i32 4 a1 (spDn IntKind.i32 4 a1 ((spRd a1 0 4).snd.snd, (spRd a1 0 4).snd.fst)).snd).snd).snd).fst, (spfqTsD a0 a1 (spDn IntKind.i8 1 a1 (spDn IntKind.i32 4 a1 (spDn IntKind.i32 4 a1 (spDn IntKind.i32 4 a1 ((spRd a1 0 4).snd.snd, (spRd a1 0 4).snd.fst)).snd).snd).snd).snd).fst, ()), 0, ()), ())) else none else none else bif spDok a1 (spDn IntKind.i32 4 a1 (spDn IntKind.i32 4 a1 (spDn IntKind.i32 4 a1 ((spRd a1 0 4).snd.snd, (spRd a1 0 4).snd.fst)).snd).snd).snd.snd then bif spDEnd a1 (spfqTsD a0 a1 (spDn IntKind.i32 4 a1 (spDn IntKind.i32 4 a1 (spDn IntKind.i32 4 a1 ((spRd a1 0 4).snd.snd, (spRd a1 0 4).snd.fst)).snd).snd).snd).snd != 0 then some (Out.ret (((0, 0, 0, 0, 0, [], ()), spDEnd a1 (spfqTsD a0 a1 (spDn IntKind.i32 4 a1 (spDn IntKind.i32 4 a1 (spDn IntKind.i32 4 a1 ((spRd a1 0 4).snd.snd, (spRd a1 0 4).snd.fst)).snd).snd).snd).snd, ()), ())) else some (Out.ret (((IntKind.i32.wrap (spRd a1 0 4).fst, (spDn IntKind.i32 4 a1 ((spRd a1 0 4).snd.snd, (spRd a1 0 4).snd.fst)).fst, (spDn IntKind.i32 4 a1 (spDn IntKind.i32 4 a1 ((spRd a1 0 4).snd.snd, (spRd a1 0 4).snd.fst)).snd).fst, (spDn IntKind.i32 4 a1 (spDn IntKind.i32 4 a1 (spDn IntKind.i32 4 a1 ((spRd a1 0 4).snd.snd, (spRd a1 0 4).snd.fst)).snd).snd).fst, 0, (spfqTsD a0 a1 (spDn IntKind.i32 4 a1 (spDn IntKind.i32 4 a1 (spDn IntKind.i32 4 a1 ((spRd a1 0 4).snd.snd, (spRd a1 0 4).snd.fst)).snd).snd).snd).fst, ()), 0, ()), ())) else none else none else bif spDHas a0 2 3 (spDn IntKind.i32 4 a1 (spDn IntKind.i32 4 a1 ((spRd a1 0 4).snd.snd, (spRd a1 0 4).snd.fst)).snd).snd.fst then bif spDok a1 (spDn IntKind.i32 4 a1 (spDn IntKind.i32 4 a1 ((spRd a1 0 4).snd.snd, (spRd a1 0 4).snd.fst)).snd).snd.snd then bif spDok a1 (spDn IntKind.i8 1 a1 (spDn IntKind.i32 4 a1 (spDn IntKind.i32 4 a1 ((spRd a1 0 4).snd.snd, (spRd a1 0 4).snd.fst)).snd).snd).snd.snd then bif spDEnd a1 (spfqTsD a0 a1 (spDn IntKind.i8 1 a1 (spDn IntKind.i32 4 a1 (spDn IntKind.i32 4 a1 ((spRd a1 0 4).snd.snd, (spRd a1 0 4).snd.fst)).snd).snd).snd).snd != 0 then some (Out.ret (((0, 0, 0, 0, 0, [], ()), spDEnd a1 (spfqTsD a0 a1 (spDn IntKind.i8 1 a1 (spDn IntKind.i32 4 a1 (spDn IntKind.i32 4 a1 ((spRd a1 0 4).snd.snd, (spRd a1 0 4).snd.fst)).snd).snd).snd).snd, ()), ())) else some (Out.ret (((IntKind.i32.wrap (spRd a1 0 4).fst, (spDn IntKind.i32 4 a1 ((spRd a1 0 4).snd.snd, (spRd a1 0 4).snd.fst)).fst, (spDn IntKind.i32 4 a1 (spDn IntKind.i32 4 a1 ((spRd a1 0 4).snd.snd, (spRd a1 0 4).snd.fst)).snd).fst, 0, (spDn IntKind.i8 1 a1 (spDn IntKind.i32 4 a1 (spDn IntKind.i32 4 a1 ((spRd a1 0 4).snd.snd, (spRd a1 0 4).snd.fst)).snd).snd).fst, (spfqTsD a0 a1 (spDn IntKind.i8 1 a1 (spDn IntKind.i32 4 a1 (spDn IntKind.i32 4 a1 ((spRd a1 0 4).snd.snd, (spRd a1 0 4).snd.fst)).snd).snd).snd).fst, ()), 0, ()), ())) else none else none else bif spDok a1 (spDn IntKind.i32 4 a1 (spDn IntKind.i32 4 a1 ((spRd a1 0 4).snd.snd, (spRd a1 0 4).snd.fst)).snd).snd.snd then bif spDEnd a1 (spfqTsD a0 a1 (spDn IntKind.i32 4 a1 (spDn IntKind.i32 4 a1 ((spRd a1 0 4).snd.snd, (spRd a1 0 4).snd.fst)).snd).snd).snd != 0 then some (Out.ret (((0, 0, 0, 0, 0, [], ()), spDEnd a1 (spfqTsD a0 a1 (spDn IntKind.i32 4 a1 (spDn IntKind.i32 4 a1 ((spRd a1 0 4).snd.snd, (spRd a1 0 4).snd.fst)).snd).snd).snd, ()), ())) else some (Out.ret (((IntKind.i32.wrap (spRd a1 0 4).fst, (spDn IntKind.i32 4 a1 ((spRd a1 0 4).snd.snd, (spRd a1 0 4).snd.fst)).fst, (spDn IntKind.i32 4 a1 (spDn IntKind.i32 4 a1 ((spRd a1 0 4).snd.snd, (spRd a1 0 4).snd.fst)).snd).fst, 0, 0, (spfqTsD a0 a1 (spDn IntKind.i32 4 a1 (spDn IntKind.i32 4 a1 ((spRd a1 0 4).snd.snd, (spRd a1 0 4).snd.fst)).snd).snd).fst, ()), 0, ()), ())) else none else none else none else none else none
theorem rundfqMsg (a0 : Int) (a1 : List Int) : Io.run tt hddfqMsg dr lpdfqMsg iodfqMsg Go.Proofs.Tryz.f43 ((a0, a1, ()), ()) = bodydfqMsg a0 a1 := by kernel_rfl
theorem okdfqMsg : HcOk prog 43 (ioHd iodfqMsg FdfqMsg) := by
  refine fn_sound (n := 400) hm (cs := csdfqMsg) (.cons (or_sound okdNewZ okdNew) (.cons (or_sound okdHasZ okdHas) (.cons (or_sound okdI32Z okdI32) (.cons (or_sound okdI8Z okdI8) (.cons (or_sound okdfqTopicsZ okdfqTopics) (.cons (or_sound okdEndZ okdEnd) .nil)))))) (lp := lpdfqMsg) (fn := Go.Proofs.Tryz.f43) (by kernel_rfl) (by kernel_rfl) (by kernel_rfl) iodfqMsg (.done (by kernel_rfl)) FdfqMsg ?_
  rintro ⟨⟨(v : Int), (b : List Int), ⟨⟩⟩, ⟨⟩⟩ out hw ho
  cases ho
  refine (rundfqMsg v b).trans ?_
  unfold bodydfqMsg
  show _ = some (Out.ret (((spfqD v b).1, ((spfqD v b).2, ())), ()))
  by_cases h : 0 ≤ v ∧ v ≤ 3 ∧ (b.length : Int) ≤ 130048
  · have hc : (decide (0 ≤ v) && (decide (v ≤ 3) && decide ((b.length : Int) ≤ 130048))) = true := by simpa using h
    refine (bif_false (by rw [hc]; rfl) _ _).trans ?_
    refine (bif_true hc _ _).trans ?_
    have hg : spDok b ((0, 0) : DeS).2 = true := by simp [spDok]; omega
    unfold spfqD spfqDB
    rw [if_pos h]
    refine (bif_true hg _ _).trans ?_
    have g0 : spDok b (spDn .i32 4 b ((0, 0) : DeS)).2.2 = true := spDn_ok .i32 4 (s := ((0, 0) : DeS)) hg
    refine (bif_true g0 _ _).trans ?_
    have g1 : spDok b (spDn .i32 4 b (spDn .i32 4 b ((0, 0) : DeS)).2).2.2 = true := spDn_ok .i32 4 (s := (spDn .i32 4 b ((0, 0) : DeS)).2) g0
    refine (bif_true g1 _ _).trans ?_
    have g2 : spDok b (spDn .i32 4 b (spDn .i32 4 b (spDn .i32 4 b ((0, 0) : DeS)).2).2).2.2 = true := spDn_ok .i32 4 (s := (spDn .i32 4 b (spDn .i32 4 b ((0, 0) : DeS)).2).2) g1
    show (bif spDHas v 1 3 (spDn .i32 4 b (spDn .i32 4 b (spDn .i32 4 b ((0, 0) : DeS)).2).2).2.1 then _ else _) = _
    cases h3 : spDHas v 1 3 (spDn .i32 4 b (spDn .i32 4 b (spDn .i32 4 b ((0, 0) : DeS)).2).2).2.1
    · have e3 : spDHasN .i32 4 v 1 3 b (spDn .i32 4 b (spDn .i32 4 b (spDn .i32 4 b ((0, 0) : DeS)).2).2).2 = (0, (spDn .i32 4 b (spDn .i32 4 b (spDn .i32 4 b ((0, 0) : DeS)).2).2).2) := by unfold spDHasN; rw [if_neg (by rw [h3]; decide)]
      rw [e3]
      show (bif spDHas v 2 3 (spDn .i32 4 b (spDn .i32 4 b (spDn .i32 4 b ((0, 0) : DeS)).2).2).2.1 then _ else _) = _
      cases hf4 : spDHas v 2 3 (spDn .i32 4 b (spDn .i32 4 b (spDn .i32 4 b ((0, 0) : DeS)).2).2).2.1
      · have ef4 : spDHasN .i8 1 v 2 3 b (spDn .i32 4 b (spDn .i32 4 b (spDn .i32 4 b ((0, 0) : DeS)).2).2).2 = (0, (spDn .i32 4 b (spDn .i32 4 b (spDn .i32 4 b ((0, 0) : DeS)).2).2).2) := by unfold spDHasN; rw [if_neg (by rw [hf4]; decide)]
        rw [ef4]
        refine (bif_true g2 _ _).trans ?_
        have gff5 : spDok b (spfqTsD v b (spDn .i32 4 b (spDn .i32 4 b (spDn .i32 4 b ((0, 0) : DeS)).2).2).2).2.2 = true := spfqTsD_ok (s := (spDn .i32 4 b (spDn .i32 4 b (spDn .i32 4 b ((0, 0) : DeS)).2).2).2) g2
        show _ = some (Out.ret (((if spDEnd b (spfqTsD v b (spDn .i32 4 b (spDn .i32 4 b (spDn .i32 4 b ((0, 0) : DeS)).2).2).2).2 = 0 then _ else _ : tfqMsg.den × Int).1, _), ()))
        by_cases hE : spDEnd b (spfqTsD v b (spDn .i32 4 b (spDn .i32 4 b (spDn .i32 4 b ((0, 0) : DeS)).2).2).2).2 = 0
        · rw [if_pos hE]
          exact bif_false (show (spDEnd b (spfqTsD v b (spDn .i32 4 b (spDn .i32 4 b (spDn .i32 4 b ((0, 0) : DeS)).2).2).2).2 != 0) = false by simpa using hE) _ _
        · rw [if_neg hE]
          exact bif_true (show (spDEnd b (spfqTsD v b (spDn .i32 4 b (spDn .i32 4 b (spDn .i32 4 b ((0, 0) : DeS)).2).2).2).2 != 0) = true by simpa using hE) _ _
      · have ef4 : spDHasN .i8 1 v 2 3 b (spDn .i32 4 b (spDn .i32 4 b (spDn .i32 4 b ((0, 0) : DeS)).2).2).2 = spDn .i8 1 b (spDn .i32 4 b (spDn .i32 4 b (spDn .i32 4 b ((0, 0) : DeS)).2).2).2 := by unfold spDHasN; rw [if_pos hf4]
        rw [ef4]
        refine (bif_true g2 _ _).trans ?_
        have gf4 : spDok b (spDn .i8 1 b (spDn .i32 4 b (spDn .i32 4 b (spDn .i32 4 b ((0, 0) : DeS)).2).2).2).2.2 = true := spDn_ok .i8 1 (s := (spDn .i32 4 b (spDn .i32 4 b (spDn .i32 4 b ((0, 0) : DeS)).2).2).2) g2
        refine (bif_true gf4 _ _).trans ?_
        have gft5 : spDok b (spfqTsD v b (spDn .i8 1 b (spDn .i32 4 b (spDn .i32 4 b (spDn .i32 4 b ((0, 0) : DeS)).2).2).2).2).2.2 = true := spfqTsD_ok (s := (spDn .i8 1 b (spDn .i32 4 b (spDn .i32 4 b (spDn .i32 4 b ((0, 0) : DeS)).2).2).2).2) gf4
        show _ = some (Out.ret (((if spDEnd b (spfqTsD v b (spDn .i8 1 b (spDn .i32 4 b (spDn .i32 4 b (spDn .i32 4 b ((0, 0) : DeS)).2).2).2).2).2 = 0 then _ else _ : tfqMsg.den × Int).1, _), ()))
        by_cases hE : spDEnd b (spfqTsD v b (spDn .i8 1 b (spDn .i32 4 b (spDn .i32 4 b (spDn .i32 4 b ((0, 0) : DeS)).2).2).2).2).2 = 0
        · rw [if_pos hE]
          exact bif_false (show (spDEnd b (spfqTsD v b (spDn .i8 1 b (spDn .i32 4 b (spDn .i32 4 b (spDn .i32 4 b ((0, 0) : DeS)).2).2).2).2).2 != 0) = false by simpa using hE) _ _
        · rw [if_neg hE]
          exact bif_true (show (spDEnd b (spfqTsD v b (spDn .i8 1 b (spDn .i32 4 b (spDn .i32 4 b (spDn .i32 4 b ((0, 0) : DeS)).2).2).2).2).2 != 0) = true by simpa using hE) _ _
    · have e3 : spDHasN .i32 4 v 1 3 b (spDn .i32 4 b (spDn .i32 4 b (spDn .i32 4 b ((0, 0) : DeS)).2).2).2 = spDn .i32 4 b (spDn .i32 4 b (spDn .i32 4 b (spDn .i32 4 b ((0, 0) : DeS)).2).2).2 := by unfold spDHasN; rw [if_pos h3]
      rw [e3]
      refine (bif_true g2 _ _).trans ?_
      have g3 : spDok b (spDn .i32 4 b (spDn .i32 4 b (spDn .i32 4 b (spDn .i32 4 b ((0, 0) : DeS)).2).2).2).2.2 = true := spDn_ok .i32 4 (s := (spDn .i32 4 b (spDn .i32 4 b (spDn .i32 4 b ((0, 0) : DeS)).2).2).2) g2
      show (bif spDHas v 2 3 (spDn .i32 4 b (spDn .i32 4 b (spDn .i32 4 b (spDn .i32 4 b ((0, 0) : DeS)).2).2).2).2.1 then _ else _) = _
      cases ht4 : spDHas v 2 3 (spDn .i32 4 b (spDn .i32 4 b (spDn .i32 4 b (spDn .i32 4 b ((0, 0) : DeS)).2).2).2).2.1
      · have et4 : spDHasN .i8 1 v 2 3 b (spDn .i32 4 b (spDn .i32 4 b (spDn .i32 4 b (spDn .i32 4 b ((0, 0) : DeS)).2).2).2).2 = (0, (spDn .i32 4 b (spDn .i32 4 b (spDn .i32 4 b (spDn .i32 4 b ((0, 0) : DeS)).2).2).2).2) := by unfold spDHasN; rw [if_neg (by rw [ht4]; decide)]
        rw [et4]
        refine (bif_true g3 _ _).trans ?_
        have gtf5 : spDok b (spfqTsD v b (spDn .i32 4 b (spDn .i32 4 b (spDn .i32 4 b (spDn .i32 4 b ((0, 0) : DeS)).2).2).2).2).2.2 = true := spfqTsD_ok (s := (spDn .i32 4 b (spDn .i32 4 b (spDn .i32 4 b (spDn .i32 4 b ((0, 0) : DeS)).2).2).2).2) g3
        show _ = some (Out.ret (((if spDEnd b (spfqTsD v b (spDn .i32 4 b (spDn .i32 4 b (spDn .i32 4 b (spDn .i32 4 b ((0, 0) : DeS)).2).2).2).2).2 = 0 then _ else _ : tfqMsg.den × Int).1, _), ()))
        by_cases hE : spDEnd b (spfqTsD v b (spDn .i32 4 b (spDn .i32 4 b (spDn .i32 4 b (spDn .i32 4 b ((0, 0) : DeS)).2).2).2).2).2 = 0
        · rw [if_pos hE]
          exact bif_false (show (spDEnd b (spfqTsD v b (spDn .i32 4 b (spDn .i32 4 b (spDn .i32 4 b (spDn .i32 4 b ((0, 0) : DeS)).2).2).2).2).2 != 0) = false by simpa using hE) _ _
        · rw [if_neg hE]
          exact bif_true (show (spDEnd b (spfqTsD v b (spDn .i32 4 b (spDn .i32 4 b (spDn .i32 4 b (spDn .i32 4 b ((0, 0) : DeS)).2).2).2).2).2 != 0) = true by simpa using hE) _ _
      · have et4 : spDHasN .i8 1 v 2 3 b (spDn .i32 4 b (spDn .i32 4 b (spDn .i32 4 b (spDn .i32 4 b ((0, 0) : DeS)).2).2).2).2 = spDn .i8 1 b (spDn .i32 4 b (spDn .i32 4 b (spDn .i32 4 b (spDn .i32 4 b ((0, 0) : DeS)).2).2).2).2 := by unfold spDHasN; rw [if_pos ht4]
        rw [et4]
        refine (bif_true g3 _ _).trans ?_
        have gt4 : spDok b (spDn .i8 1 b (spDn .i32 4 b (spDn .i32 4 b (spDn .i32 4 b (spDn .i32 4 b ((0, 0) : DeS)).2).2).2).2).2.2 = true := spDn_ok .i8 1 (s := (spDn .i32 4 b (spDn .i32 4 b (spDn .i32 4 b (spDn .i32 4 b ((0, 0) : DeS)).2).2).2).2) g3
        refine (bif_true gt4 _ _).trans ?_
        have gtt5 : spDok b (spfqTsD v b (spDn .i8 1 b (spDn .i32 4 b (spDn .i32 4 b (spDn .i32 4 b (spDn .i32 4 b ((0, 0) : DeS)).2).2).2).2).2).2.2 = true := spfqTsD_ok (s := (spDn .i8 1 b (spDn .i32 4 b (spDn .i32 4 b (spDn .i32 4 b (spDn .i32 4 b ((0, 0) : DeS)).2).2).2).2).2) gt4
        show _ = some (Out.ret (((if spDEnd b (spfqTsD v b (spDn .i8 1 b (spDn .i32 4 b (spDn .i32 4 b (spDn .i32 4 b (spDn .i32 4 b ((0, 0) : DeS)).2).2).2).2).2).2 = 0 then _ else _ : tfqMsg.den × Int).1, _), ()))
        by_cases hE : spDEnd b (spfqTsD v b (spDn .i8 1 b (spDn .i32 4 b (spDn .i32 4 b (spDn .i32 4 b (spDn .i32 4 b ((0, 0) : DeS)).2).2).2).2).2).2 = 0
        · rw [if_pos hE]
          exact bif_false (show (spDEnd b (spfqTsD v b (spDn .i8 1 b (spDn .i32 4 b (spDn .i32 4 b (spDn .i32 4 b (spDn .i32 4 b ((0, 0) : DeS)).2).2).2).2).2).2 != 0) = false by simpa using hE) _ _
        · rw [if_neg hE]
          exact bif_true (show (spDEnd b (spfqTsD v b (spDn .i8 1 b (spDn .i32 4 b (spDn .i32 4 b (spDn .i32 4 b (spDn .i32 4 b ((0, 0) : DeS)).2).2).2).2).2).2 != 0) = true by simpa using hE) _ _
  · have hc : (decide (0 ≤ v) && (decide (v ≤ 3) && decide ((b.length : Int) ≤ 130048))) = false := by
      rw [Bool.eq_false_iff]
      intro h'
      simp only [Bool.and_eq_true, decide_eq_true_eq] at h'
      exact h h'
    have hn : spNewD v ≠ 0 := by unfold spNewD; split <;> decide
    unfold spfqD
    rw [if_neg h]
    refine (bif_true (by rw [hc]; rfl) _ _).trans ?_
    refine (bif_false hc _ _).trans ?_
    repeat refine (bif_true (decide_eq_true hn) _ _).trans ?_
    exact bif_true (by simpa using hn) _ _
end
end Go.Proofs.YtjpeefegeobgfaaGreat.Sym
namespace Go.Proofs.YtjpeefegeobgfaaGreat.Sym
open Go
set_option linter.unusedSimpArgs false
set_option linter.unusedVariables false
noncomputable section
def spfqF (p : tfqPart.den) : Nd := ndRow [ndNum 3 p.1, ndNum 3 p.2.2.1, ndNum 4 p.2.1, ndNum 3 p.2.2.2.1]
theorem spfqF_eq {p : tfqPart.den} (h : tfqPart.wf p) : ndRow [ndNum 3 (IntKind.i64.wrap p.1), ndNum 3 (IntKind.i64.wrap p.2.2.1), ndNum 4 p.2.1, ndNum 3 (IntKind.i64.wrap p.2.2.2.1)] = spfqF p := by
  rw [i64_i32 (n := p.1) h.1, i64_i32 (n := p.2.2.1) h.2.2.1, i64_i32 (n := p.2.2.2.1) h.2.2.2.1]; rfl
def spfqFT (t : tfqTopic.den) : Nd := ndRow [ndText t.1, ndRows (t.2.1.map spfqF)]
@[irreducible] def spfqFull (m : tfqMsg.den) : Nd := ndRow [ndNum 3 m.1, ndNum 3 m.2.1, ndNum 3 m.2.2.1, ndNum 3 m.2.2.2.1, ndNum 1 m.2.2.2.2.1, ndRows (m.2.2.2.2.2.1.map spfqFT)]
def spfqO (x : Nd) : tfqPart.den := (IntKind.i32.wrap (spAt x 0).lab.2.1, ((spAt x 2).lab.2.1, (IntKind.i32.wrap (spAt x 1).lab.2.1, (IntKind.i32.wrap (spAt x 3).lab.2.1, ()))))
def spfqOT (x : Nd) : tfqTopic.den := ((spAt x 0).lab.2.2.2.1, ((spAt x 1).kids.map spfqO, ()))
@[irreducible] def spfqOM (n : Nd) : tfqMsg.den := (IntKind.i32.wrap (spAt n 0).lab.2.1, (IntKind.i32.wrap (spAt n 1).lab.2.1, (IntKind.i32.wrap (spAt n 2).lab.2.1, (IntKind.i32.wrap (spAt n 3).lab.2.1, (IntKind.i8.wrap (spAt n 4).lab.2.1, ((spAt n 5).kids.map spfqOT, ()))))))
theorem spfqO_full {p : tfqPart.den} (h : tfqPart.wf p) : spfqO (spfqF p) = p := by
  obtain ⟨(ix : Int), (fo : Int), (ep : Int), (mx : Int), ⟨⟩⟩ := p
  show (IntKind.i32.wrap ix, (fo, (IntKind.i32.wrap ep, (IntKind.i32.wrap mx, ())))) = _
  rw [i32_id (n := ix) h.1, i32_id (n := ep) h.2.2.1, i32_id (n := mx) h.2.2.2.1]
  try rfl
theorem spfqOT_full {t : tfqTopic.den} (h : tfqTopic.wf t) : spfqOT (spfqFT t) = t := by
  obtain ⟨n, l, ⟨⟩⟩ := t
  show (n, ((l.map spfqF).map spfqO, ())) = _
  rw [List.map_map, map_id_of (f := spfqO ∘ spfqF) (l := l) fun p hp => spfqO_full (h.2.1.2 p hp)]
theorem spfqOM_full {m : tfqMsg.den} (h : tfqMsg.wf m) : spfqOM (spfqFull m) = m := by
  obtain ⟨(re : Int), (wt : Int), (mi : Int), (mb : Int), (lv : Int), (ts : List tfqTopic.den), ⟨⟩⟩ := m
  unfold spfqOM spfqFull
  show (IntKind.i32.wrap re, (IntKind.i32.wrap wt, (IntKind.i32.wrap mi, (IntKind.i32.wrap mb, (IntKind.i8.wrap lv, ((ts.map spfqFT).map spfqOT, ())))))) = _
  rw [i32_id (n := re) h.1, i32_id (n := wt) h.2.1, i32_id (n := mi) h.2.2.1, i32_id (n := mb) h.2.2.2.1, i8_id (n := lv) h.2.2.2.2.1, List.map_map, map_id_of (f := spfqOT ∘ spfqFT) (l := ts) fun t ht => spfqOT_full (h.2.2.2.2.2.1.2 t ht)]
abbrev iozfqFull : Io := ⟨[.dat tfqMsg true false], [], [], [dNode], none⟩
def spfqLens (l : List tfqTopic.den) : Bool := decide (l.length ≤ 4294967296) && l.all fun t => decide (t.2.1.length ≤ 4294967296)
def FzfqFull (d : iozfqFull.In) : Tr iozfqFull.Res := .ite (spfqLens d.1.1.2.2.2.2.2.1) (.ret (.ret ((spfqFull d.1.1, ()), ()))) .no
abbrev cszfqFull : List (Nat × Hc) := [(130, ioHd iotNum FtNum), (131, ioHd iotRow FtRow), (132, ioHd iotText FtText), (133, ioHd iotRows FtRows)]
def hdzfqFull : Hd := hdT cszfqFull
abbrev lozfqFull_8 : Lo := ⟨⟨[.any, .one (.ptr 1 0), .one (.ptr 2 0), .one (.onl 98 tNode 7), .one (.hol (.int IntKind.i64)), .one (.onl 98 tNode 11), .one (.hol (.int IntKind.i64)), .any, .any, .any, .any, .any, .any, .any, .any, .any, .any, .any, .any, .any, .any, .any, .any, .any, .any, .any, .any, .any, .any, .any, .any, .any, .any, .any, .any, .any, .any, .any, .any, .any, .any, .any, .any, .any, .any, .any, .any, .any, .any, .any, .any, .any, .any, .any, .any, .any, .any, .any, .any, .any, .any, .any, .any, .any, .any, .any, .any, .any, .any, .any, .any, .any, .any, .any, .any, .any, .any, .any, .any, .any, .any, .any, .any, .any, .any, .any, .any, .any, .any, .any, .any, .any, .any, .any, .any, .any, .any, .any, .any, .any, .any, .any, .any, .any, .any, .any, .any, .any], [none, some [.hol (.int IntKind.i32), .hol (.int IntKind.i32), .hol (.int IntKind.i32), .hol (.int IntKind.i32), .hol (.int IntKind.i8), .hol (.sl 158 tfqTopic)], some [.hol (.int IntKind.i64), .hol (.int IntKind.i64), .hol .bool, .onl 5 (Ty.int IntKind.u8) 1032, .onl 98 tNode 1034]]⟩, [(.exit 2, ⟨[.any, .one (.ptr 1 0), .one (.ptr 2 0), .one (.onl 98 tNode 7), .one (.hol (.int IntKind.i64)), .one (.onl 98 tNode 11), .any, .any, .any, .any, .any, .any, .any, .any, .any, .any, .any, .any, .any, .any, .any, .any, .any, .any, .any, .any, .any, .any, .any, .any, .any, .any, .any, .any, .any, .any, .any, .any, .any, .any, .any, .any, .any, .any, .any, .any, .any, .any, .any, .any, .any, .any, .any, .any, .any, .any, .any, .any, .any, .any, .any, .any, .any, .any, .any, .any, .any, .any, .any, .any, .any, .any, .any, .any, .any, .any, .any, .any, .any, .any, .any, .any, .any, .any, .any, .any, .any, .any, .any, .any, .any, .any, .any, .any, .any, .any, .any, .any, .any, .any, .any, .any, .any, .any, .any, .any, .any, .any], [none, some [.hol (.int IntKind.i32), .hol (.int IntKind.i32), .hol (.int IntKind.i32), .hol (.int IntKind.i32), .hol (.int IntKind.i8), .hol (.sl 158 tfqTopic)], some [.hol (.int IntKind.i64), .hol (.int IntKind.i64), .hol .bool, .onl 5 (Ty.int IntKind.u8) 1032, .onl 98 tNode 1034]]⟩)]⟩
-- FzfqFull_8 : lozfqFull_8.st.den → Tr (DenX lozfqFull_8.xs) | ((h19, (h20, (h21, (h22, ())))), ((h23, (h24, (h25, (h26, (h27, (h28, ())))))), ((h29, (h30, (h31, (h32, (h33, ()))))), ())))
abbrev lozfqFull_4 : Lo := ⟨⟨[.any, .one (.ptr 1 0), .one (.ptr 2 0), .one (.onl 98 tNode 7), .one (.hol (.int IntKind.i64)), .any, .any, .any, .any, .any, .any, .any, .any, .any, .any, .any, .any, .any, .any, .any, .any, .any, .any, .any, .any, .any, .any, .any, .any, .any, .any, .any, .any, .any, .any, .any, .any, .any, .any, .any, .any, .any, .any, .any, .any, .any, .any, .any, .any, .any, .any, .any, .any, .any, .any, .any, .any, .any, .any, .any, .any, .any, .any, .any, .any, .any, .any, .any, .any, .any, .any, .any, .any, .any, .any, .any, .any, .any, .any, .any, .any, .any, .any, .any, .any, .any, .any, .any, .any, .any, .any, .any, .any, .any, .any, .any, .any, .any, .any, .any, .any, .any, .any, .any, .any, .any, .any, .any], [none, some [.hol (.int IntKind.i32), .hol (.int IntKind.i32), .hol (.int IntKind.i32), .hol (.int IntKind.i32), .hol (.int IntKind.i8), .hol (.sl 158 tfqTopic)], some [.hol (.int IntKind.i64), .hol (.int IntKind.i64), .hol .bool, .onl 5 (Ty.int IntKind.u8) 1032, .onl 98 tNode 1034]]⟩, [(.exit 0, ⟨[.any, .one (.ptr 1 0), .one (.ptr 2 0), .one (.onl 98 tNode 7), .any, .any, .any, .any, .any, .any, .any, .any, .any, .any, .any, .any, .any, .any, .any, .any, .any, .any, .any, .any, .any, .any, .any, .any, .any, .any, .any, .any, .any, .any, .any, .any, .any, .any, .any, .any, .any, .any, .any, .any, .any, .any, .any, .any, .any, .any, .any, .any, .any, .any, .any, .any, .any, .any, .any, .any, .any, .any, .any, .any, .any, .any, .any, .any, .any, .any, .any, .any, .any, .any, .any, .any, .any, .any, .any, .any, .any, .any, .any, .any, .any, .any, .any, .any, .any, .any, .any, .any, .any, .any, .any, .any, .any, .any, .any, .any, .any, .any, .any, .any, .any, .any, .any, .any], [none, some [.hol (.int IntKind.i32), .hol (.int IntKind.i32), .hol (.int IntKind.i32), .hol (.int IntKind.i32), .hol (.int IntKind.i8), .hol (.sl 158 tfqTopic)], some [.hol (.int IntKind.i64), .hol (.int IntKind.i64), .hol .bool, .onl 5 (Ty.int IntKind.u8) 1032, .onl 98 tNode 1034]]⟩)]⟩
-- FzfqFull_4 : lozfqFull_4.st.den → Tr (DenX lozfqFull_4.xs) | ((h6, (h7, ())), ((h8, (h9, (h10, (h11, (h12, (h13, ())))))), ((h14, (h15, (h16, (h17, (h18, ()))))), ())))
def FzfqFull_8 (d : lozfqFull_8.st.den) : Tr (DenX lozfqFull_8.xs) :=
  .ite ((decide ((0 : Int) ≤ d.1.2.1) && decide (d.1.2.1 < (d.2.1.2.2.2.2.2.1.length : Int))) && ((decide (d.1.2.2.1.length = 0) && decide (d.1.2.2.2.1 = 0)) && decide ((d.2.1.2.2.2.2.2.1.getD d.1.2.1.toNat tfqTopic.zero).2.1.length ≤ 4294967296)))
    (.ret (.ret ((), ((d.1.1, (d.1.2.1, ((d.2.1.2.2.2.2.2.1.getD d.1.2.1.toNat tfqTopic.zero).2.1.map spfqF, ()))), (d.2.1, (d.2.2.1, ())))))) .no
def FzfqFull_4 (d : lozfqFull_4.st.den) : Tr (DenX lozfqFull_4.xs) :=
  .ite ((decide (d.1.1.length = 0) && decide (d.1.2.1 = 0)) && spfqLens d.2.1.2.2.2.2.2.1)
    (.ret (.ret ((), ((d.2.1.2.2.2.2.2.1.map spfqFT, ()), (d.2.1, (d.2.2.1, ())))))) .no
def lpzfqFull : Lp := lpT [(4, loHd lozfqFull_4 FzfqFull_4), (8, loHd lozfqFull_8 FzfqFull_8)]
def stepzfqFull_8 {R : Type} (h19 : List tNode.den) (h20 : Int) (h21 : List tNode.den) (h22 : Int) (h23 : Int) (h24 : Int) (h25 : Int) (h26 : Int) (h27 : Int) (h28 : List tfqTopic.den) (h29 : Int) (h30 : Int) (h31 : Bool) (h32 : List Int) (h33 : List tNode.den) (next : List tNode.den → Int → List tNode.den → Int → Int → Int → Int → Int → Int → List tfqTopic.den → Int → Int → Bool → List Int → List tNode.den → Option R) (out : DenX lozfqFull_8.xs → Option R) : Option R := bif decide (0 ≤ h20) && decide (h20 < (↑h28.length : Int)) then bif decide (h22 < (↑(List.length (h28.getD h20.toNat ([], [], ())).snd.fst) : Int)) then bif decide (0 ≤ h20) && decide (h20 < (↑h28.length : Int)) then bif decide (0 ≤ h22) && decide (h22 < (↑(List.length (h28.getD h20.toNat ([], [], ())).snd.fst) : Int)) then bif decide (h21.length + 1 ≤ 4294967296) then next (h19) (h20) (h21 ++ [Tre.mk (10, 0, false, [], ()) [Tre.mk (3, IntKind.i64.wrap (List.getD (h28.getD h20.toNat ([], [], ())).snd.fst h22.toNat (0, 0, 0, 0, ())).fst, false, [], ()) [], Tre.mk (3, IntKind.i64.wrap (List.getD (h28.getD h20.toNat ([], [], ())).snd.fst h22.toNat (0, 0, 0, 0, ())).snd.snd.fst, false, [], ()) [], Tre.mk (4, (List.getD (h28.getD h20.toNat ([], [], ())).snd.fst h22.toNat (0, 0, 0, 0, ())).snd.fst, false, [], ()) [], Tre.mk (3, IntKind.i64.wrap (List.getD (h28.getD h20.toNat ([], [], ())).snd.fst h22.toNat (0, 0, 0, 0, ())).snd.snd.snd.fst, false, [], ()) []]]) (IntKind.i64.wrap (h22 + 1)) (h23) (h24) (h25) (h26) (h27) (h28) (h29) (h30) (h31) (h32) (h33) else none else none else none else out (.ret ((), ((h19, (h20, (h21, ()))), ((h23, (h24, (h25, (h26, (h27, (h28, ())))))), ((h29, (h30, (h31, (h32, (h33, ()))))), ()))))) else none
def itzfqFull_8 (n : Nat) (h19 : List tNode.den) (h20 : Int) (h21 : List tNode.den) (h22 : Int) (h23 : Int) (h24 : Int) (h25 : Int) (h26 : Int) (h27 : Int) (h28 : List tfqTopic.den) (h29 : Int) (h30 : Int) (h31 : Bool) (h32 : List Int) (h33 : List tNode.den) : Option (DenX lozfqFull_8.xs) := lpN tt hdzfqFull dr lpzfqFull 0 Go.Proofs.Tryz.f97 (subL Go.Proofs.Tryz.f97 (topL Go.Proofs.Tryz.f97 0) 0) n (lozfqFull_8.st.mk' ((h19, (h20, (h21, (h22, ())))), ((h23, (h24, (h25, (h26, (h27, (h28, ())))))), ((h29, (h30, (h31, (h32, (h33, ()))))), ())))) (decX lozfqFull_8.xs)
theorem slzfqFull_8 (n : Nat) (h19 : List tNode.den) (h20 : Int) (h21 : List tNode.den) (h22 : Int) (h23 : Int) (h24 : Int) (h25 : Int) (h26 : Int) (h27 : Int) (h28 : List tfqTopic.den) (h29 : Int) (h30 : Int) (h31 : Bool) (h32 : List Int) (h33 : List tNode.den) : itzfqFull_8 (n + 1) h19 h20 h21 h22 h23 h24 h25 h26 h27 h28 h29 h30 h31 h32 h33 = stepzfqFull_8 h19 h20 h21 h22 h23 h24 h25 h26 h27 h28 h29 h30 h31 h32 h33 (itzfqFull_8 n) some := by kernel_rfl
def stepzfqFull_4 {R : Type} (h6 : List tNode.den) (h7 : Int) (h8 : Int) (h9 : Int) (h10 : Int) (h11 : Int) (h12 : Int) (h13 : List tfqTopic.den) (h14 : Int) (h15 : Int) (h16 : Bool) (h17 : List Int) (h18 : List tNode.den) (next : List tNode.den → Int → Int → Int → Int → Int → Int → List tfqTopic.den → Int → Int → Bool → List Int → List tNode.den → Option R) (out : DenX lozfqFull_4.xs → Option R) : Option R := bif decide (h7 < (↑h13.length : Int)) then (FzfqFull_8 ((h6, (h7, ([], (0, ())))), ((h8, (h9, (h10, (h11, (h12, (h13, ())))))), ((h14, (h15, (h16, (h17, (h18, ()))))), ())))).run fun y => match y with | .ret ((), ((x63, x64, x65, ()), (x66, x67, x68, x69, x70, x71, ()), (x72, x73, x74, x75, x76, ()), ())) => (bif decide (0 ≤ x64) && decide (x64 < (↑x71.length : Int)) then bif decide (x63.length + 1 ≤ 4294967296) then next (x63 ++ [Tre.mk (10, 0, false, [], ()) [Tre.mk (5, 0, false, (x71.getD x64.toNat ([], [], ())).fst, ()) [], Tre.mk (9, 0, false, [], ()) x65]]) (IntKind.i64.wrap (x64 + 1)) (x66) (x67) (x68) (x69) (x70) (x71) (x72) (x73) (x74) (x75) (x76) else none else none) else out (.ret ((), ((h6, ()), ((h8, (h9, (h10, (h11, (h12, (h13, ())))))), ((h14, (h15, (h16, (h17, (h18, ()))))), ())))))
def itzfqFull_4 (n : Nat) (h6 : List tNode.den) (h7 : Int) (h8 : Int) (h9 : Int) (h10 : Int) (h11 : Int) (h12 : Int) (h13 : List tfqTopic.den) (h14 : Int) (h15 : Int) (h16 : Bool) (h17 : List Int) (h18 : List tNode.den) : Option (DenX lozfqFull_4.xs) := lpN tt hdzfqFull dr lpzfqFull 0 Go.Proofs.Tryz.f97 (topL Go.Proofs.Tryz.f97 0) n (lozfqFull_4.st.mk' ((h6, (h7, ())), ((h8, (h9, (h10, (h11, (h12, (h13, ())))))), ((h14, (h15, (h16, (h17, (h18, ()))))), ())))) (decX lozfqFull_4.xs)
theorem slzfqFull_4 (n : Nat) (h6 : List tNode.den) (h7 : Int) (h8 : Int) (h9 : Int) (h10 : Int) (h11 : Int) (h12 : Int) (h13 : List tfqTopic.den) (h14 : Int) (h15 : Int) (h16 : Bool) (h17 : List Int) (h18 : List tNode.den) : itzfqFull_4 (n + 1) h6 h7 h8 h9 h10 h11 h12 h13 h14 h15 h16 h17 h18 = stepzfqFull_4 h6 h7 h8 h9 h10 h11 h12 h13 h14 h15 h16 h17 h18 (itzfqFull_4 n) some := by kernel_rfl
theorem loopzfqFull_8 {ts : List tfqTopic.den} (hw : ∀ t ∈ ts, tfqTopic.wf t) (hl : ts.length ≤ maxLen) {i : Nat} (hi : i < ts.length) (hp : (ts[i]).2.1.length ≤ 4294967296) (acc : List Nd) (re : Int) (wt : Int) (mi : Int) (mb : Int) (lv : Int) (a' b' : Int) (z' : Bool) (x' : List Int) (l' : List Nd) : ∀ (k j : Nat) (o : List Nd), (ts[i]).2.1.length < j + k → j ≤ (ts[i]).2.1.length → o.length ≤ j →
    itzfqFull_8 k acc i o j re wt mi mb lv ts a' b' z' x' l' = some (.ret ((), ((acc, ((i : Int), (o ++ ((ts[i]).2.1.drop j).map spfqF, ()))), ((re, (wt, (mi, (mb, (lv, (ts, ())))))), ((a', (b', (z', (x', (l', ()))))), ()))))) := by
  intro k
  induction k with
  | zero => intro j o h1 h2; omega
  | succ k ih =>
    intro j o h1 h2 h3
    rw [slzfqFull_8]
    unfold stepzfqFull_8
    refine (bif_true (by simp; omega) _ _).trans ?_
    have hti := hw _ (List.getElem_mem hi)
    simp only [Int.toNat_natCast, getD_lt hi]
    generalize ts[i] = t at hp h1 h2 ih hti ⊢
    by_cases hj : j < t.2.1.length
    · refine (bif_true (decide_eq_true (show (j : Int) < (t.2.1.length : Int) by omega)) _ _).trans ?_
      refine (bif_true (by simp; omega) _ _).trans ?_
      refine (bif_true (by simp; omega) _ _).trans ?_
      refine (bif_true (decide_eq_true (show o.length + 1 ≤ 4294967296 by omega)) _ _).trans ?_
      have hpw := hti.2.1.2 _ (List.getElem_mem hj)
      have ih' := ih (j + 1) (o ++ [spfqF t.2.1[j]]) (by omega) (by omega) (by simp; omega)
      have hd : t.2.1.drop j = t.2.1[j] :: t.2.1.drop (j + 1) := List.drop_eq_getElem_cons hj
      rw [hd, wrap_i64 (n := (j : Int) + 1) (by omega) (by omega)]
      have hgp : List.getD t.2.1 ((j : Int)).toNat tfqPart.zero = t.2.1[j] := by simp only [Int.toNat_natCast]; exact getD_lt hj

      refine Eq.trans ?_ (ih'.trans ?_)
      · refine congrArg (fun x => itzfqFull_8 k acc i (o ++ [x]) _ re wt mi mb lv ts a' b' z' x' l') ?_
        show ndRow [ndNum 3 (IntKind.i64.wrap (List.getD t.2.1 ((j : Int)).toNat tfqPart.zero).1), ndNum 3 (IntKind.i64.wrap (List.getD t.2.1 ((j : Int)).toNat tfqPart.zero).2.2.1), ndNum 4 (List.getD t.2.1 ((j : Int)).toNat tfqPart.zero).2.1, ndNum 3 (IntKind.i64.wrap (List.getD t.2.1 ((j : Int)).toNat tfqPart.zero).2.2.2.1)] = _
        rw [hgp]
        exact spfqF_eq hpw
      · simp only [List.map_cons, List.append_assoc, List.singleton_append]
    · refine (bif_false (decide_eq_false (show ¬ (j : Int) < (t.2.1.length : Int) by omega)) _ _).trans ?_
      rw [List.drop_of_length_le (by omega)]
      simp
theorem loopzfqFull_4 {ts : List tfqTopic.den} (hw : ∀ t ∈ ts, tfqTopic.wf t) (hl : ts.length ≤ maxLen) (hs : spfqLens ts = true) (re : Int) (wt : Int) (mi : Int) (mb : Int) (lv : Int) (a' b' : Int) (z' : Bool) (x' : List Int) (l' : List Nd) : ∀ (k j : Nat) (o : List Nd), ts.length < j + k → j ≤ ts.length → o.length ≤ j →
    itzfqFull_4 k o j re wt mi mb lv ts a' b' z' x' l' = some (.ret ((), ((o ++ (ts.drop j).map spfqFT, ()), ((re, (wt, (mi, (mb, (lv, (ts, ())))))), ((a', (b', (z', (x', (l', ()))))), ()))))) := by
  intro k
  have hs1 := (Bool.and_eq_true _ _ ▸ hs).1
  have hs2 := (Bool.and_eq_true _ _ ▸ hs).2
  have hs1 : ts.length ≤ 4294967296 := of_decide_eq_true hs1
  induction k with
  | zero => intro j o h1 h2; omega
  | succ k ih =>
    intro j o h1 h2 h3
    rw [slzfqFull_4]
    unfold stepzfqFull_4
    by_cases hj : j < ts.length
    · refine (bif_true (decide_eq_true (show (j : Int) < (ts.length : Int) by omega)) _ _).trans ?_
      have hgp : ts.getD ((j : Int)).toNat tfqTopic.zero = ts[j] := by simp only [Int.toNat_natCast]; exact getD_lt hj
      have hpl : (ts[j]).2.1.length ≤ 4294967296 := of_decide_eq_true (List.all_eq_true.1 hs2 _ (List.getElem_mem hj))
      have c8 : ((decide ((0 : Int) ≤ (j : Int)) && decide ((j : Int) < (ts.length : Int))) && ((decide (([] : List Nd).length = 0) && decide ((0 : Int) = 0)) && decide ((ts.getD ((j : Int)).toNat tfqTopic.zero).2.1.length ≤ 4294967296))) = true := by
        rw [hgp]; simp; omega
      refine (bif_true c8 _ _).trans ?_
      refine (bif_true (by simp; omega) _ _).trans ?_
      refine (bif_true (decide_eq_true (show o.length + 1 ≤ 4294967296 by omega)) _ _).trans ?_
      rw [wrap_i64 (n := (j : Int) + 1) (by omega) (by omega)]
      have ih' := ih (j + 1) (o ++ [spfqFT ts[j]]) (by omega) (by omega) (by simp; omega)
      have hd : ts.drop j = ts[j] :: ts.drop (j + 1) := List.drop_eq_getElem_cons hj
      rw [hd]
      refine Eq.trans ?_ (ih'.trans ?_)
      · refine congrArg (fun x => itzfqFull_4 k (o ++ [x]) _ re wt mi mb lv ts a' b' z' x' l') ?_
        show (ndRow [ndText (ts.getD ((j : Int)).toNat tfqTopic.zero).1, ndRows ((ts.getD ((j : Int)).toNat tfqTopic.zero).2.1.map spfqF)]) = _
        rw [hgp]; rfl
      · simp only [List.map_cons, List.append_assoc, List.singleton_append]
    · refine (bif_false (decide_eq_false (show ¬ (j : Int) < (ts.length : Int) by omega)) _ _).trans ?_
      rw [List.drop_of_length_le (by omega)]
      simp
def bodyzfqFull (a0 : Int) (a1 : Int) (a2 : Int) (a3 : Int) (a4 : Int) (a5 : List tfqTopic.den) : Option iozfqFull.Res := (FzfqFull_4 (([], (0, ())), ((a0, (a1, (a2, (a3, (a4, (a5, ())))))), ((0, (0, (false, ([], ([], ()))))), ())))).run fun y => match y with | .ret ((), ((x102, ()), (x103, x104, x105, x106, x107, x108, ()), (x109, x110, x111, x112, x113, ()), ())) => (some (Out.ret ((Tre.mk (10, 0, false, [], ()) ([Tre.mk (3, IntKind.i64.wrap x103, false, [], ()) [], Tre.mk (3, IntKind.i64.wrap x104, false, [], ()) [], Tre.mk (3, IntKind.i64.wrap x105, false, [], ()) []] ++ [Tre.mk (3, IntKind.i64.wrap x106, false, [], ()) []] ++ [Tre.mk (1, IntKind.i64.wrap x107, false, [], ()) []] ++ [Tre.mk (9, 0, false, [], ()) x102]), ()), ())))
theorem runzfqFull (a0 : Int) (a1 : Int) (a2 : Int) (a3 : Int) (a4 : Int) (a5 : List tfqTopic.den) : Io.run tt hdzfqFull dr lpzfqFull iozfqFull Go.Proofs.Tryz.f97 (((a0, a1, a2, a3, a4, a5, ()), ()), ()) = bodyzfqFull a0 a1 a2 a3 a4 a5 := by kernel_rfl
theorem okzfqFull : HcOk prog 97 (ioHd iozfqFull FzfqFull) := by
  refine fn_sound (n := 400) hm (cs := cszfqFull) (.cons oktNum (.cons oktRow (.cons oktText (.cons oktRows .nil)))) (lp := lpzfqFull) (fn := Go.Proofs.Tryz.f97) (by kernel_rfl) (by kernel_rfl) (by kernel_rfl) iozfqFull (.step (h0 := loHd lozfqFull_4 FzfqFull_4) (by kernel_rfl) (loop_sound (n := 400) hm (cs := cszfqFull) (.cons oktNum (.cons oktRow (.cons oktText (.cons oktRows .nil)))) (lp := lpzfqFull) (fn := Go.Proofs.Tryz.f97) (.step (h0 := loHd lozfqFull_8 FzfqFull_8) (by kernel_rfl) (loop_sound (n := 400) hm (cs := cszfqFull) (.cons oktNum (.cons oktRow (.cons oktText (.cons oktRows .nil)))) (lp := lpzfqFull) (fn := Go.Proofs.Tryz.f97) (.done (by kernel_rfl)) lozfqFull_8 FzfqFull_8 ?_) (.done (by kernel_rfl))) lozfqFull_4 FzfqFull_4 ?_) (.done (by kernel_rfl))) FzfqFull ?_
  · rintro ⟨⟨(acc : List Nd), (i : Int), (o : List Nd), (j : Int), ⟨⟩⟩, ⟨⟨(re : Int), (wt : Int), (mi : Int), (mb : Int), (lv : Int), (ts : List tfqTopic.den), ⟨⟩⟩, ⟨(a' : Int), (b' : Int), (z' : Bool), (x' : List Int), (l' : List Nd), ⟨⟩⟩, ⟨⟩⟩⟩ y hw hy
    obtain ⟨hg, hy⟩ := Tr.guard hy
    simp only [Bool.and_eq_true, decide_eq_true_eq] at hg
    obtain ⟨⟨h1, h2⟩, ⟨h3, h4⟩, h5⟩ := hg
    have h1 : 0 ≤ i := h1
    have h2 : i < (ts.length : Int) := h2
    have h3 : o = [] := List.eq_nil_of_length_eq_zero h3
    have h4 : j = 0 := h4
    obtain ⟨i, rfl⟩ := toNat_of h1
    subst h3
    subst h4
    have hi : i < ts.length := by omega
    have hgp : ts.getD ((i : Int)).toNat tfqTopic.zero = ts[i] := by simp only [Int.toNat_natCast]; exact getD_lt hi
    have h5 : (ts.getD ((i : Int)).toNat tfqTopic.zero).2.1.length ≤ 4294967296 := h5
    rw [hgp] at h5
    have hwt : ts.length ≤ maxLen ∧ ∀ t ∈ ts, tfqTopic.wf t := by have := hw.2.1.2.2.2.2.2.1; exact this
    refine ⟨(ts[i]).2.1.length + 1, (loopzfqFull_8 hwt.2 hwt.1 hi h5 acc re wt mi mb lv a' b' z' x' l' ((ts[i]).2.1.length + 1) 0 [] (by omega) (by omega) (by simp)).trans ?_⟩
    rw [← hy, ← hgp, List.drop_zero]
    rfl
  · rintro ⟨⟨(o : List Nd), (j : Int), ⟨⟩⟩, ⟨⟨(re : Int), (wt : Int), (mi : Int), (mb : Int), (lv : Int), (ts : List tfqTopic.den), ⟨⟩⟩, ⟨(a' : Int), (b' : Int), (z' : Bool), (x' : List Int), (l' : List Nd), ⟨⟩⟩, ⟨⟩⟩⟩ y hw hy
    obtain ⟨hg, hy⟩ := Tr.guard hy
    simp only [Bool.and_eq_true, decide_eq_true_eq] at hg
    obtain ⟨⟨h3, h4⟩, h5⟩ := hg
    have h3 : o = [] := List.eq_nil_of_length_eq_zero h3
    have h4 : j = 0 := h4
    have h5 : spfqLens ts = true := h5
    subst h3
    subst h4
    have hwt : ts.length ≤ maxLen ∧ ∀ t ∈ ts, tfqTopic.wf t := by have := hw.2.1.2.2.2.2.2.1; exact this
    refine ⟨ts.length + 1, (loopzfqFull_4 hwt.2 hwt.1 h5 re wt mi mb lv a' b' z' x' l' (ts.length + 1) 0 [] (by omega) (by omega) (by simp)).trans ?_⟩
    rw [← hy, List.drop_zero]
    rfl
  · rintro ⟨⟨⟨(re : Int), (wt : Int), (mi : Int), (mb : Int), (lv : Int), (ts : List tfqTopic.den), ⟨⟩⟩, ⟨⟩⟩, ⟨⟩⟩ out hw ho
    obtain ⟨hg, ho⟩ := Tr.guard ho
    have hg : spfqLens ts = true := hg
    cases ho
    refine (runzfqFull re wt mi mb lv ts).trans ?_
    unfold bodyzfqFull
    have c1 : ((decide (([] : List Nd).length = 0) && decide ((0 : Int) = 0)) && spfqLens ts) = true := by rw [hg]; rfl
    refine (bif_true c1 _ _).trans ?_
    show _ = some (Out.ret ((spfqFull (re, (wt, (mi, (mb, (lv, (ts, ())))))), ()), ()))
    unfold spfqFull
    have hre : IntKind.i64.wrap re = re := i64_i32 hw.1.1.1
    have hwt : IntKind.i64.wrap wt = wt := i64_i32 hw.1.1.2.1
    have hmi : IntKind.i64.wrap mi = mi := i64_i32 hw.1.1.2.2.1
    have hmb : IntKind.i64.wrap mb = mb := i64_i32 hw.1.1.2.2.2.1
    have hlv : IntKind.i64.wrap lv = lv := i64_i8 hw.1.1.2.2.2.2.1
    show some (Out.ret ((ndRow [ndNum 3 (IntKind.i64.wrap re), ndNum 3 (IntKind.i64.wrap wt), ndNum 3 (IntKind.i64.wrap mi), ndNum 3 (IntKind.i64.wrap mb), ndNum 1 (IntKind.i64.wrap lv), ndRows (ts.map spfqFT)], ()), ())) = _
    rw [hre, hwt, hmi, hmb, hlv]
abbrev iozfqOf : Io := ⟨[dNode], [], [], [.dat tfqMsg true false], none⟩
def FzfqOf (d : iozfqOf.In) : Tr iozfqOf.Res := .ite (decide (spWt d.1.1 ≤ 4294967296)) (.ret (.ret ((spfqOM d.1.1, ()), ()))) .no
abbrev cszfqOf : List (Nat × Hc) := [(129, ioHd iotAt FtAt)]
def hdzfqOf : Hd := hdT cszfqOf
abbrev lozfqOf_12 : Lo := ⟨⟨[.any, .any, .one (.ptr 2 0), .one (.ptr 3 0), .one (.hol (.sl 98 tNode)), .one (.hol (.int IntKind.i64)), .one (.ptr 6 0), .one (.hol (.sl 98 tNode)), .one (.hol (.int IntKind.i64)), .any, .any, .any, .any, .any, .any, .any, .any, .any, .any, .any, .any, .any, .any, .any, .any, .any, .any, .any, .any, .any, .any, .any, .any, .any, .any, .any, .any, .any, .any, .any, .any, .any, .any, .any, .any, .any, .any, .any, .any, .any, .any, .any, .any, .any, .any, .any, .any, .any, .any, .any, .any, .any, .any, .any, .any, .any, .any, .any, .any, .any, .any, .any, .any, .any, .any, .any, .any, .any, .any, .any, .any, .any, .any, .any, .any, .any, .any, .any, .any, .any, .any, .any, .any, .any, .any, .any, .any, .any, .any, .any, .any, .any, .any, .any, .any], [none, none, some [.hol (.int IntKind.i32), .hol (.int IntKind.i32), .hol (.int IntKind.i32), .hol (.int IntKind.i32), .hol (.int IntKind.i8), .onl 158 tfqTopic 1036], some [.hol (.int IntKind.i32), .hol (.int IntKind.i32), .hol (.int IntKind.i32), .hol (.int IntKind.i32), .hol (.int IntKind.i8), .onl 158 tfqTopic 1548], none, none, some [.hol .str, .onl 160 tfqPart 3076]]⟩, [(.exit 2, ⟨[.any, .any, .one (.ptr 2 0), .one (.ptr 3 0), .one (.hol (.sl 98 tNode)), .one (.hol (.int IntKind.i64)), .one (.ptr 6 0), .any, .any, .any, .any, .any, .any, .any, .any, .any, .any, .any, .any, .any, .any, .any, .any, .any, .any, .any, .any, .any, .any, .any, .any, .any, .any, .any, .any, .any, .any, .any, .any, .any, .any, .any, .any, .any, .any, .any, .any, .any, .any, .any, .any, .any, .any, .any, .any, .any, .any, .any, .any, .any, .any, .any, .any, .any, .any, .any, .any, .any, .any, .any, .any, .any, .any, .any, .any, .any, .any, .any, .any, .any, .any, .any, .any, .any, .any, .any, .any, .any, .any, .any, .any, .any, .any, .any, .any, .any, .any, .any, .any, .any, .any, .any, .any, .any, .any], [none, none, some [.hol (.int IntKind.i32), .hol (.int IntKind.i32), .hol (.int IntKind.i32), .hol (.int IntKind.i32), .hol (.int IntKind.i8), .onl 158 tfqTopic 1036], some [.hol (.int IntKind.i32), .hol (.int IntKind.i32), .hol (.int IntKind.i32), .hol (.int IntKind.i32), .hol (.int IntKind.i8), .onl 158 tfqTopic 1548], none, none, some [.hol .str, .onl 160 tfqPart 3076]]⟩)]⟩
-- FzfqOf_12 : lozfqOf_12.st.den → Tr (DenX lozfqOf_12.xs) | ((h15, (h16, (h17, (h18, ())))), ((h19, (h20, (h21, (h22, (h23, (h24, ())))))), ((h25, (h26, (h27, (h28, (h29, (h30, ())))))), ((h31, (h32, ())), ()))))
abbrev lozfqOf_7 : Lo := ⟨⟨[.any, .any, .one (.ptr 2 0), .one (.ptr 3 0), .one (.hol (.sl 98 tNode)), .one (.hol (.int IntKind.i64)), .any, .any, .any, .any, .any, .any, .any, .any, .any, .any, .any, .any, .any, .any, .any, .any, .any, .any, .any, .any, .any, .any, .any, .any, .any, .any, .any, .any, .any, .any, .any, .any, .any, .any, .any, .any, .any, .any, .any, .any, .any, .any, .any, .any, .any, .any, .any, .any, .any, .any, .any, .any, .any, .any, .any, .any, .any, .any, .any, .any, .any, .any, .any, .any, .any, .any, .any, .any, .any, .any, .any, .any, .any, .any, .any, .any, .any, .any, .any, .any, .any, .any, .any, .any, .any, .any, .any, .any, .any, .any, .any, .any, .any, .any, .any, .any, .any, .any, .any], [none, none, some [.hol (.int IntKind.i32), .hol (.int IntKind.i32), .hol (.int IntKind.i32), .hol (.int IntKind.i32), .hol (.int IntKind.i8), .onl 158 tfqTopic 1036], some [.hol (.int IntKind.i32), .hol (.int IntKind.i32), .hol (.int IntKind.i32), .hol (.int IntKind.i32), .hol (.int IntKind.i8), .onl 158 tfqTopic 1548]]⟩, [(.exit 0, ⟨[.any, .any, .one (.ptr 2 0), .one (.ptr 3 0), .any, .any, .any, .any, .any, .any, .any, .any, .any, .any, .any, .any, .any, .any, .any, .any, .any, .any, .any, .any, .any, .any, .any, .any, .any, .any, .any, .any, .any, .any, .any, .any, .any, .any, .any, .any, .any, .any, .any, .any, .any, .any, .any, .any, .any, .any, .any, .any, .any, .any, .any, .any, .any, .any, .any, .any, .any, .any, .any, .any, .any, .any, .any, .any, .any, .any, .any, .any, .any, .any, .any, .any, .any, .any, .any, .any, .any, .any, .any, .any, .any, .any, .any, .any, .any, .any, .any, .any, .any, .any, .any, .any, .any, .any, .any, .any, .any, .any, .any, .any, .any], [none, none, some [.hol (.int IntKind.i32), .hol (.int IntKind.i32), .hol (.int IntKind.i32), .hol (.int IntKind.i32), .hol (.int IntKind.i8), .onl 158 tfqTopic 1036], some [.hol (.int IntKind.i32), .hol (.int IntKind.i32), .hol (.int IntKind.i32), .hol (.int IntKind.i32), .hol (.int IntKind.i8), .onl 158 tfqTopic 1548]]⟩)]⟩
-- FzfqOf_7 : lozfqOf_7.st.den → Tr (DenX lozfqOf_7.xs) | ((h1, (h2, ())), ((h3, (h4, (h5, (h6, (h7, (h8, ())))))), ((h9, (h10, (h11, (h12, (h13, (h14, ())))))), ())))
def FzfqOf_12 (d : lozfqOf_12.st.den) : Tr (DenX lozfqOf_12.xs) :=
  .ite ((decide (d.1.2.2.2.1 = 0) && decide (d.2.2.2.1.2.1.length = 0)) && decide (spWts d.1.2.2.1 ≤ 4294967296))
    (.ret (.ret ((), ((d.1.1, (d.1.2.1, ())), (d.2.1, (d.2.2.1, ((d.2.2.2.1.1, (d.1.2.2.1.map spfqO, ())), ()))))))) .no
def FzfqOf_7 (d : lozfqOf_7.st.den) : Tr (DenX lozfqOf_7.xs) :=
  .ite ((decide (d.1.2.1 = 0) && decide (d.2.2.1.2.2.2.2.2.1.length = 0)) && decide (spWts d.1.1 ≤ 4294967296))
    (.ret (.ret ((), ((), (d.2.1, ((d.2.2.1.1, (d.2.2.1.2.1, (d.2.2.1.2.2.1, (d.2.2.1.2.2.2.1, (d.2.2.1.2.2.2.2.1, (d.1.1.map spfqOT, ())))))), ())))))) .no
def lpzfqOf : Lp := lpT [(7, loHd lozfqOf_7 FzfqOf_7), (12, loHd lozfqOf_12 FzfqOf_12)]
def stepzfqOf_12 {R : Type} (h15 : List (Nd)) (h16 : Int) (h17 : List (Nd)) (h18 : Int) (h19 : Int) (h20 : Int) (h21 : Int) (h22 : Int) (h23 : Int) (h24 : List tfqTopic.den) (h25 : Int) (h26 : Int) (h27 : Int) (h28 : Int) (h29 : Int) (h30 : List tfqTopic.den) (h31 : List Int) (h32 : List tfqPart.den) (next : List (Nd) → Int → List (Nd) → Int → Int → Int → Int → Int → Int → List tfqTopic.den → Int → Int → Int → Int → Int → List tfqTopic.den → List Int → List tfqPart.den → Option R) (out : DenX lozfqOf_12.xs → Option R) : Option R := bif decide (h18 < (↑h17.length : Int)) then bif decide (0 ≤ h18) && decide (h18 < (↑h17.length : Int)) then bif decide (0 ≤ h18) && decide (h18 < (↑h17.length : Int)) then bif decide (0 ≤ h18) && decide (h18 < (↑h17.length : Int)) then bif decide (0 ≤ h18) && decide (h18 < (↑h17.length : Int)) then bif decide (h32.length + 1 ≤ 4294967296) then next (h15) (h16) (h17) (IntKind.i64.wrap (h18 + 1)) (h19) (h20) (h21) (h22) (h23) (h24) (h25) (h26) (h27) (h28) (h29) (h30) (h31) (h32 ++ [(IntKind.i32.wrap (spAt (Tre.mk (h17.getD h18.toNat (Tre.mk (0, 0, false, [], ()) [])).1 (h17.getD h18.toNat (Tre.mk (0, 0, false, [], ()) [])).2) 0).1.snd.fst, (spAt (Tre.mk (h17.getD h18.toNat (Tre.mk (0, 0, false, [], ()) [])).1 (h17.getD h18.toNat (Tre.mk (0, 0, false, [], ()) [])).2) 2).1.snd.fst, IntKind.i32.wrap (spAt (Tre.mk (h17.getD h18.toNat (Tre.mk (0, 0, false, [], ()) [])).1 (h17.getD h18.toNat (Tre.mk (0, 0, false, [], ()) [])).2) 1).1.snd.fst, IntKind.i32.wrap (spAt (Tre.mk (h17.getD h18.toNat (Tre.mk (0, 0, false, [], ()) [])).1 (h17.getD h18.toNat (Tre.mk (0, 0, false, [], ()) [])).2) 3).1.snd.fst, ())]) else none else none else none else none else none else out (.ret ((), ((h15, (h16, ())), ((h19, (h20, (h21, (h22, (h23, (h24, ())))))), ((h25, (h26, (h27, (h28, (h29, (h30, ())))))), ((h31, (h32, ())), ()))))))
def itzfqOf_12 (n : Nat) (h15 : List (Nd)) (h16 : Int) (h17 : List (Nd)) (h18 : Int) (h19 : Int) (h20 : Int) (h21 : Int) (h22 : Int) (h23 : Int) (h24 : List tfqTopic.den) (h25 : Int) (h26 : Int) (h27 : Int) (h28 : Int) (h29 : Int) (h30 : List tfqTopic.den) (h31 : List Int) (h32 : List tfqPart.den) : Option (DenX lozfqOf_12.xs) := lpN tt hdzfqOf dr lpzfqOf 0 Go.Proofs.Tryz.f96 (subL Go.Proofs.Tryz.f96 (topL Go.Proofs.Tryz.f96 0) 0) n (lozfqOf_12.st.mk' ((h15, (h16, (h17, (h18, ())))), ((h19, (h20, (h21, (h22, (h23, (h24, ())))))), ((h25, (h26, (h27, (h28, (h29, (h30, ())))))), ((h31, (h32, ())), ()))))) (decX lozfqOf_12.xs)
theorem slzfqOf_12 (n : Nat) (h15 : List (Nd)) (h16 : Int) (h17 : List (Nd)) (h18 : Int) (h19 : Int) (h20 : Int) (h21 : Int) (h22 : Int) (h23 : Int) (h24 : List tfqTopic.den) (h25 : Int) (h26 : Int) (h27 : Int) (h28 : Int) (h29 : Int) (h30 : List tfqTopic.den) (h31 : List Int) (h32 : List tfqPart.den) : itzfqOf_12 (n + 1) h15 h16 h17 h18 h19 h20 h21 h22 h23 h24 h25 h26 h27 h28 h29 h30 h31 h32 = stepzfqOf_12 h15 h16 h17 h18 h19 h20 h21 h22 h23 h24 h25 h26 h27 h28 h29 h30 h31 h32 (itzfqOf_12 n) some := by kernel_rfl
def stepzfqOf_7 {R : Type} (h1 : List (Nd)) (h2 : Int) (h3 : Int) (h4 : Int) (h5 : Int) (h6 : Int) (h7 : Int) (h8 : List tfqTopic.den) (h9 : Int) (h10 : Int) (h11 : Int) (h12 : Int) (h13 : Int) (h14 : List tfqTopic.den) (next : List (Nd) → Int → Int → Int → Int → Int → Int → List tfqTopic.den → Int → Int → Int → Int → Int → List tfqTopic.den → Option R) (out : DenX lozfqOf_7.xs → Option R) : Option R := bif decide (h2 < (↑h1.length : Int)) then bif decide (0 ≤ h2) && decide (h2 < (↑h1.length : Int)) then bif decide (0 ≤ h2) && decide (h2 < (↑h1.length : Int)) then (FzfqOf_12 ((h1, (h2, ((spAt (Tre.mk (h1.getD h2.toNat (Tre.mk (0, 0, false, [], ()) [])).1 (h1.getD h2.toNat (Tre.mk (0, 0, false, [], ()) [])).2) 1).2, (0, ())))), ((h3, (h4, (h5, (h6, (h7, (h8, ())))))), ((h9, (h10, (h11, (h12, (h13, (h14, ())))))), (((spAt (Tre.mk (h1.getD h2.toNat (Tre.mk (0, 0, false, [], ()) [])).1 (h1.getD h2.toNat (Tre.mk (0, 0, false, [], ()) [])).2) 0).1.snd.snd.snd.fst, ([], ())), ()))))).run fun y => match y with | .ret ((), ((x67, x68, ()), (x69, x70, x71, x72, x73, x74, ()), (x75, x76, x77, x78, x79, x80, ()), (x81, x82, ()), ())) => (bif decide (x80.length + 1 ≤ 4294967296) then next (x67) (IntKind.i64.wrap (x68 + 1)) (x69) (x70) (x71) (x72) (x73) (x74) (x75) (x76) (x77) (x78) (x79) (x80 ++ [(x81, x82, ())]) else none) else none else none else out (.ret ((), ((), ((h3, (h4, (h5, (h6, (h7, (h8, ())))))), ((h9, (h10, (h11, (h12, (h13, (h14, ())))))), ())))))
def itzfqOf_7 (n : Nat) (h1 : List (Nd)) (h2 : Int) (h3 : Int) (h4 : Int) (h5 : Int) (h6 : Int) (h7 : Int) (h8 : List tfqTopic.den) (h9 : Int) (h10 : Int) (h11 : Int) (h12 : Int) (h13 : Int) (h14 : List tfqTopic.den) : Option (DenX lozfqOf_7.xs) := lpN tt hdzfqOf dr lpzfqOf 0 Go.Proofs.Tryz.f96 (topL Go.Proofs.Tryz.f96 0) n (lozfqOf_7.st.mk' ((h1, (h2, ())), ((h3, (h4, (h5, (h6, (h7, (h8, ())))))), ((h9, (h10, (h11, (h12, (h13, (h14, ())))))), ())))) (decX lozfqOf_7.xs)
theorem slzfqOf_7 (n : Nat) (h1 : List (Nd)) (h2 : Int) (h3 : Int) (h4 : Int) (h5 : Int) (h6 : Int) (h7 : Int) (h8 : List tfqTopic.den) (h9 : Int) (h10 : Int) (h11 : Int) (h12 : Int) (h13 : Int) (h14 : List tfqTopic.den) : itzfqOf_7 (n + 1) h1 h2 h3 h4 h5 h6 h7 h8 h9 h10 h11 h12 h13 h14 = stepzfqOf_7 h1 h2 h3 h4 h5 h6 h7 h8 h9 h10 h11 h12 h13 h14 (itzfqOf_7 n) some := by kernel_rfl
theorem loopzfqOf_12 {ps : List Nd} (hb : spWts ps ≤ 4294967296) (tops : List Nd) (i : Int) (re0 : Int) (wt0 : Int) (mi0 : Int) (mb0 : Int) (lv0 : Int) (ts0 : List tfqTopic.den) (re : Int) (wt : Int) (mi : Int) (mb : Int) (lv : Int) (ts : List tfqTopic.den) (tn : List Int) : ∀ (k j : Nat) (o : List tfqPart.den), ps.length < j + k → j ≤ ps.length → o.length ≤ j →
    itzfqOf_12 k tops i ps j re0 wt0 mi0 mb0 lv0 ts0 re wt mi mb lv ts tn o = some (.ret ((), ((tops, (i, ())), ((re0, (wt0, (mi0, (mb0, (lv0, (ts0, ())))))), ((re, (wt, (mi, (mb, (lv, (ts, ())))))), ((tn, (o ++ (ps.drop j).map spfqO, ())), ())))))) := by
  intro k
  have hlen := spWts_len ps
  induction k with
  | zero => intro j o h1 h2; omega
  | succ k ih =>
    intro j o h1 h2 h3
    rw [slzfqOf_12]
    unfold stepzfqOf_12
    by_cases hj : j < ps.length
    · refine (bif_true (decide_eq_true (show (j : Int) < (ps.length : Int) by omega)) _ _).trans ?_
      have hmem := spWt_mem (List.getElem_mem hj)
      have ih' := ih (j + 1) (o ++ [spfqO ps[j]]) (by omega) (by omega) (by simp; omega)
      have hd : ps.drop j = ps[j] :: ps.drop (j + 1) := List.drop_eq_getElem_cons hj
      rw [hd, wrap_i64 (n := (j : Int) + 1) (by omega) (by omega)]
      simp only [Int.toNat_natCast, getD_lt hj]
      generalize ps[j] = u at hmem ih' ⊢
      obtain ⟨ul, uk⟩ := u
      refine (bif_true (by simp; omega) _ _).trans ?_
      refine (bif_true (by simp; omega) _ _).trans ?_
      refine (bif_true (by simp; omega) _ _).trans ?_
      refine (bif_true (by simp; omega) _ _).trans ?_
      refine (bif_true (decide_eq_true (show o.length + 1 ≤ 4294967296 by omega)) _ _).trans ?_
      refine ih'.trans ?_
      simp only [List.map_cons, List.append_assoc, List.singleton_append]
    · refine (bif_false (decide_eq_false (show ¬ (j : Int) < (ps.length : Int) by omega)) _ _).trans ?_
      rw [List.drop_of_length_le (by omega)]
      simp
theorem loopzfqOf_7 {nds : List Nd} (hb : spWts nds ≤ 4294967296) (re0 : Int) (wt0 : Int) (mi0 : Int) (mb0 : Int) (lv0 : Int) (ts0 : List tfqTopic.den) (re : Int) (wt : Int) (mi : Int) (mb : Int) (lv : Int) : ∀ (k j : Nat) (ts : List tfqTopic.den), nds.length < j + k → j ≤ nds.length → ts.length ≤ j →
    itzfqOf_7 k nds j re0 wt0 mi0 mb0 lv0 ts0 re wt mi mb lv ts = some (.ret ((), ((), ((re0, (wt0, (mi0, (mb0, (lv0, (ts0, ())))))), ((re, (wt, (mi, (mb, (lv, (ts ++ (nds.drop j).map spfqOT, ())))))), ()))))) := by
  intro k
  have hlen := spWts_len nds
  induction k with
  | zero => intro j o h1 h2; omega
  | succ k ih =>
    intro j ts h1 h2 h3
    rw [slzfqOf_7]
    unfold stepzfqOf_7
    by_cases hj : j < nds.length
    · refine (bif_true (decide_eq_true (show (j : Int) < (nds.length : Int) by omega)) _ _).trans ?_
      have hmem := spWt_mem (List.getElem_mem hj)
      have ih' := ih (j + 1) (ts ++ [spfqOT nds[j]]) (by omega) (by omega) (by simp; omega)
      have hd : nds.drop j = nds[j] :: nds.drop (j + 1) := List.drop_eq_getElem_cons hj
      rw [hd]
      simp only [Int.toNat_natCast, getD_lt hj]
      generalize nds[j] = u at hmem ih' ⊢
      obtain ⟨ul, uk⟩ := u
      refine (bif_true (by simp; omega) _ _).trans ?_
      refine (bif_true (by simp; omega) _ _).trans ?_
      have hw1 := spAt_wt (Tre.mk ul uk) 1
      have hw2 := spWts_kids (spAt (Tre.mk ul uk) 1)
      have cA : ((decide ((0 : Int) = 0) && decide (([] : List tfqPart.den).length = 0)) && decide (spWts (spAt (Tre.mk ul uk) 1).kids ≤ 4294967296)) = true := by simp; omega
      refine (bif_true cA _ _).trans ?_
      refine (bif_true (decide_eq_true (show ts.length + 1 ≤ 4294967296 by omega)) _ _).trans ?_
      rw [wrap_i64 (n := (j : Int) + 1) (by omega) (by omega)]
      refine ih'.trans ?_
      simp only [List.map_cons, List.append_assoc, List.singleton_append]
    · refine (bif_false (decide_eq_false (show ¬ (j : Int) < (nds.length : Int) by omega)) _ _).trans ?_
      rw [List.drop_of_length_le (by omega)]
      simp
def bodyzfqOf (a0 : Nd) : Option iozfqOf.Res := (FzfqOf_7 (((spAt (Tre.mk a0.1 a0.2) 5).2, (0, ())), ((0, (0, (0, (0, (0, ([], ())))))), ((IntKind.i32.wrap (spAt (Tre.mk a0.1 a0.2) 0).1.snd.fst, (IntKind.i32.wrap (spAt (Tre.mk a0.1 a0.2) 1).1.snd.fst, (IntKind.i32.wrap (spAt (Tre.mk a0.1 a0.2) 2).1.snd.fst, (IntKind.i32.wrap (spAt (Tre.mk a0.1 a0.2) 3).1.snd.fst, (IntKind.i8.wrap (spAt (Tre.mk a0.1 a0.2) 4).1.snd.fst, ([], ())))))), ())))).run fun y => match y with | .ret ((), ((), (x109, x110, x111, x112, x113, x114, ()), (x115, x116, x117, x118, x119, x120, ()), ())) => (some (Out.ret (((x115, x116, x117, x118, x119, x120, ()), ()), ())))
theorem runzfqOf (a0 : Nd) : Io.run tt hdzfqOf dr lpzfqOf iozfqOf Go.Proofs.Tryz.f96 ((a0, ()), ()) = bodyzfqOf a0 := by kernel_rfl
theorem okzfqOf : HcOk prog 96 (ioHd iozfqOf FzfqOf) := by
  refine fn_sound (n := 400) hm (cs := cszfqOf) (.cons oktAt .nil) (lp := lpzfqOf) (fn := Go.Proofs.Tryz.f96) (by kernel_rfl) (by kernel_rfl) (by kernel_rfl) iozfqOf (.step (h0 := loHd lozfqOf_7 FzfqOf_7) (by kernel_rfl) (loop_sound (n := 400) hm (cs := cszfqOf) (.cons oktAt .nil) (lp := lpzfqOf) (fn := Go.Proofs.Tryz.f96) (.step (h0 := loHd lozfqOf_12 FzfqOf_12) (by kernel_rfl) (loop_sound (n := 400) hm (cs := cszfqOf) (.cons oktAt .nil) (lp := lpzfqOf) (fn := Go.Proofs.Tryz.f96) (.done (by kernel_rfl)) lozfqOf_12 FzfqOf_12 ?_) (.done (by kernel_rfl))) lozfqOf_7 FzfqOf_7 ?_) (.done (by kernel_rfl))) FzfqOf ?_
  · rintro ⟨⟨(tops : List Nd), (i : Int), (ps : List Nd), (j : Int), ⟨⟩⟩, ⟨⟨(re0 : Int), (wt0 : Int), (mi0 : Int), (mb0 : Int), (lv0 : Int), (ts0 : List tfqTopic.den), ⟨⟩⟩, ⟨(re : Int), (wt : Int), (mi : Int), (mb : Int), (lv : Int), (ts : List tfqTopic.den), ⟨⟩⟩, ⟨(tn : List Int), (o : List tfqPart.den), ⟨⟩⟩, ⟨⟩⟩⟩ y hw hy
    obtain ⟨hg, hy⟩ := Tr.guard hy
    simp only [Bool.and_eq_true, decide_eq_true_eq] at hg
    obtain ⟨⟨h1, h2⟩, h3⟩ := hg
    have h1 : j = 0 := h1
    have h2 : o = [] := List.eq_nil_of_length_eq_zero h2
    have h3 : spWts ps ≤ 4294967296 := h3
    subst h1
    subst h2
    refine ⟨ps.length + 1, (loopzfqOf_12 h3 tops i re0 wt0 mi0 mb0 lv0 ts0 re wt mi mb lv ts tn (ps.length + 1) 0 [] (by omega) (by omega) (by simp)).trans ?_⟩
    rw [← hy, List.drop_zero]
    rfl
  · rintro ⟨⟨(nds : List Nd), (j : Int), ⟨⟩⟩, ⟨⟨(re0 : Int), (wt0 : Int), (mi0 : Int), (mb0 : Int), (lv0 : Int), (ts0 : List tfqTopic.den), ⟨⟩⟩, ⟨(re : Int), (wt : Int), (mi : Int), (mb : Int), (lv : Int), (ts : List tfqTopic.den), ⟨⟩⟩, ⟨⟩⟩⟩ y hw hy
    obtain ⟨hg, hy⟩ := Tr.guard hy
    simp only [Bool.and_eq_true, decide_eq_true_eq] at hg
    obtain ⟨⟨h1, h2⟩, h3⟩ := hg
    have h1 : j = 0 := h1
    have h2 : ts = [] := List.eq_nil_of_length_eq_zero h2
    have h3 : spWts nds ≤ 4294967296 := h3
    subst h1
    subst h2
    refine ⟨nds.length + 1, (loopzfqOf_7 h3 re0 wt0 mi0 mb0 lv0 ts0 re wt mi mb lv (nds.length + 1) 0 [] (by omega) (by omega) (by simp)).trans ?_⟩
    rw [← hy, List.drop_zero]
    rfl
  · rintro ⟨⟨(n : Nd), ⟨⟩⟩, ⟨⟩⟩ out hw ho
    obtain ⟨hg, ho⟩ := Tr.guard ho
    have hg : spWt n ≤ 4294967296 := of_decide_eq_true hg
    cases ho
    refine (runzfqOf n).trans ?_
    unfold bodyzfqOf
    obtain ⟨nl, nk⟩ := n
    have hw1 := spAt_wt (Tre.mk nl nk) 5
    have hw2 := spWts_kids (spAt (Tre.mk nl nk) 5)
    have c1 : ((decide ((0 : Int) = 0) && decide (([] : List tfqTopic.den).length = 0)) && decide (spWts (spAt (Tre.mk nl nk) 5).kids ≤ 4294967296)) = true := by simp; omega
    refine (bif_true c1 _ _).trans ?_
    show _ = some (Out.ret ((spfqOM (Tre.mk nl nk), ()), ()))
    unfold spfqOM
    rfl
abbrev iozfqTwin : Io := ⟨[.dat tfqMsg true false], [], [], [.dat tfqMsg true false], none⟩
def FzfqTwin (d : iozfqTwin.In) : Tr iozfqTwin.Res := .ite (spfqLens d.1.1.2.2.2.2.2.1 && decide (spWt (spfqFull d.1.1) ≤ 4294967296)) (.ret (.ret ((d.1.1, ()), ()))) .no
abbrev cszfqTwin : List (Nat × Hc) := [(97, ioHd iozfqFull FzfqFull), (51, ioHd iotTwin FtTwin), (96, ioHd iozfqOf FzfqOf)]
def hdzfqTwin : Hd := hdT cszfqTwin
def lpzfqTwin : Lp := lpT []
def bodyzfqTwin (a0 : Int) (a1 : Int) (a2 : Int) (a3 : Int) (a4 : Int) (a5 : List tfqTopic.den) : Option iozfqTwin.Res := bif spfqLens a5 then bif decide (spWt (Tre.mk (spfqFull (a0, a1, a2, a3, a4, a5, ())).1 (spfqFull (a0, a1, a2, a3, a4, a5, ())).2) ≤ 4294967296) then bif decide (spWt (Tre.mk (spfqFull (a0, a1, a2, a3, a4, a5, ())).1 (spfqFull (a0, a1, a2, a3, a4, a5, ())).2) ≤ 4294967296) then some (Out.ret ((spfqOM (Tre.mk (spfqFull (a0, a1, a2, a3, a4, a5, ())).1 (spfqFull (a0, a1, a2, a3, a4, a5, ())).2), ()), ())) else none else none else none
theorem runzfqTwin (a0 : Int) (a1 : Int) (a2 : Int) (a3 : Int) (a4 : Int) (a5 : List tfqTopic.den) : Io.run tt hdzfqTwin dr lpzfqTwin iozfqTwin Go.Proofs.Tryz.f31 (((a0, a1, a2, a3, a4, a5, ()), ()), ()) = bodyzfqTwin a0 a1 a2 a3 a4 a5 := by kernel_rfl
theorem okzfqTwin : HcOk prog 31 (ioHd iozfqTwin FzfqTwin) := by
  refine fn_sound (n := 400) hm (cs := cszfqTwin) (.cons okzfqFull (.cons oktTwin (.cons okzfqOf .nil))) (lp := lpzfqTwin) (fn := Go.Proofs.Tryz.f31) (by kernel_rfl) (by kernel_rfl) (by kernel_rfl) iozfqTwin (.done (by kernel_rfl)) FzfqTwin ?_
  rintro ⟨⟨m, ⟨⟩⟩, ⟨⟩⟩ out hw ho
  obtain ⟨hg, ho⟩ := Tr.guard ho
  simp only [Bool.and_eq_true, decide_eq_true_eq] at hg
  obtain ⟨h1, h2⟩ := hg
  have h1 : spfqLens m.2.2.2.2.2.1 = true := h1
  have h2 : spWt (spfqFull m) ≤ 4294967296 := h2
  cases ho
  have hf := spfqOM_full (m := m) hw.1.1
  obtain ⟨re, wt, mi, mb, lv, ts, ⟨⟩⟩ := m
  refine (runzfqTwin re wt mi mb lv ts).trans ?_
  unfold bodyzfqTwin
  generalize spfqFull (re, (wt, (mi, (mb, (lv, (ts, ())))))) = n at h2 hf ⊢
  obtain ⟨nl, nk⟩ := n
  refine (bif_true h1 _ _).trans ?_
  refine (bif_true (decide_eq_true h2) _ _).trans ?_
  refine (bif_true (decide_eq_true h2) _ _).trans ?_
  exact congrArg (fun x => some (Out.ret ((x, ()), ()))) hf
abbrev iozfqAlike : Io := ⟨[.dat tfqMsg true false, .dat tfqMsg true false], [], [], [dB], none⟩
def FzfqAlike (d : iozfqAlike.In) : Tr iozfqAlike.Res := .ite (spfqLens d.1.1.2.2.2.2.2.1 && spfqLens d.1.2.1.2.2.2.2.2.1) (.ret (.ret ((spEqT d.1.1 d.1.2.1, ()), ()))) .no
abbrev cszfqAlike : List (Nat × Hc) := [(97, ioHd iozfqFull FzfqFull), (66, ioHd iotAlike FtAlike)]
def hdzfqAlike : Hd := hdT cszfqAlike
def lpzfqAlike : Lp := lpT []
def bodyzfqAlike (a0 : Int) (a1 : Int) (a2 : Int) (a3 : Int) (a4 : Int) (a5 : List tfqTopic.den) (a6 : Int) (a7 : Int) (a8 : Int) (a9 : Int) (a10 : Int) (a11 : List tfqTopic.den) : Option iozfqAlike.Res := bif spfqLens a5 then bif spfqLens a11 then some (Out.ret ((spEqN (Tre.mk (spfqFull (a0, a1, a2, a3, a4, a5, ())).1 (spfqFull (a0, a1, a2, a3, a4, a5, ())).2) (Tre.mk (spfqFull (a6, a7, a8, a9, a10, a11, ())).1 (spfqFull (a6, a7, a8, a9, a10, a11, ())).2), ()), ())) else none else none
theorem runzfqAlike (a0 : Int) (a1 : Int) (a2 : Int) (a3 : Int) (a4 : Int) (a5 : List tfqTopic.den) (a6 : Int) (a7 : Int) (a8 : Int) (a9 : Int) (a10 : Int) (a11 : List tfqTopic.den) : Io.run tt hdzfqAlike dr lpzfqAlike iozfqAlike Go.Proofs.Tryz.f34 (((a0, a1, a2, a3, a4, a5, ()), (a6, a7, a8, a9, a10, a11, ()), ()), ()) = bodyzfqAlike a0 a1 a2 a3 a4 a5 a6 a7 a8 a9 a10 a11 := by kernel_rfl
theorem okzfqAlike : HcOk prog 34 (ioHd iozfqAlike FzfqAlike) := by
  refine fn_sound (n := 400) hm (cs := cszfqAlike) (.cons okzfqFull (.cons oktAlike .nil)) (lp := lpzfqAlike) (fn := Go.Proofs.Tryz.f34) (by kernel_rfl) (by kernel_rfl) (by kernel_rfl) iozfqAlike (.done (by kernel_rfl)) FzfqAlike ?_
  rintro ⟨⟨a, b, ⟨⟩⟩, ⟨⟩⟩ out hw ho
  obtain ⟨hg, ho⟩ := Tr.guard ho
  simp only [Bool.and_eq_true] at hg
  obtain ⟨h1, h2⟩ := hg
  have h1 : spfqLens a.2.2.2.2.2.1 = true := h1
  have h2 : spfqLens b.2.2.2.2.2.1 = true := h2
  cases ho
  have hf := spfqOM_full (m := a) hw.1.1
  have hf' := spfqOM_full (m := b) hw.1.2.1
  have key : spEqN (spfqFull a) (spfqFull b) = spEqT a b := by
    rw [Bool.eq_iff_iff, spEqN_iff, spEqT_iff]
    exact ⟨fun h => by rw [← hf, ← hf', h], fun h => by rw [h]⟩
  obtain ⟨reA, wtA, miA, mbA, lvA, tsA, ⟨⟩⟩ := a
  obtain ⟨reB, wtB, miB, mbB, lvB, tsB, ⟨⟩⟩ := b
  refine (runzfqAlike reA wtA miA mbA lvA tsA reB wtB miB mbB lvB tsB).trans ?_
  unfold bodyzfqAlike
  generalize spfqFull (reA, (wtA, (miA, (mbA, (lvA, (tsA, ())))))) = n at key ⊢
  generalize spfqFull (reB, (wtB, (miB, (mbB, (lvB, (tsB, ())))))) = n' at key ⊢
  obtain ⟨nl, nk⟩ := n
  obtain ⟨nl', nk'⟩ := n'
  refine (bif_true h1 _ _).trans ?_
  refine (bif_true h2 _ _).trans ?_
  exact congrArg (fun x => some (Out.ret ((x, ()), ()))) key
abbrev iozfqEnc : Io := ⟨[dI, .dat tfqMsg true false], [], [], [dL, dI], none⟩
@[irreducible] noncomputable def spfqW (v : Int) (m : tfqMsg.den) : List Int × Int := spEW 1 false v (spfqFull m)
def FzfqEnc (d : iozfqEnc.In) : Tr iozfqEnc.Res := .ite (spfqLens d.1.2.1.2.2.2.2.2.1 && decide (8 * spWt (spfqFull d.1.2.1) ≤ 4294967296)) (.ret (.ret (((spfqW d.1.1 d.1.2.1).1, ((spfqW d.1.1 d.1.2.1).2, ())), ()))) .no
abbrev cszfqEnc : List (Nat × Hc) := [(97, ioHd iozfqFull FzfqFull), (53, ioHd iotbEW FtbEW)]
def hdzfqEnc : Hd := hdT cszfqEnc
def lpzfqEnc : Lp := lpT []
def bodyzfqEnc (a0 : Int) (a1 : Int) (a2 : Int) (a3 : Int) (a4 : Int) (a5 : Int) (a6 : List tfqTopic.den) : Option iozfqEnc.Res := bif spfqLens a6 then bif decide (8 * spWt (Tre.mk (spfqFull (a1, a2, a3, a4, a5, a6, ())).1 (spfqFull (a1, a2, a3, a4, a5, a6, ())).2) ≤ 4294967296) then some (Out.ret (((spEW 1 false a0 (Tre.mk (spfqFull (a1, a2, a3, a4, a5, a6, ())).1 (spfqFull (a1, a2, a3, a4, a5, a6, ())).2)).fst, (spEW 1 false a0 (Tre.mk (spfqFull (a1, a2, a3, a4, a5, a6, ())).1 (spfqFull (a1, a2, a3, a4, a5, a6, ())).2)).snd, ()), ())) else none else none
theorem runzfqEnc (a0 : Int) (a1 : Int) (a2 : Int) (a3 : Int) (a4 : Int) (a5 : Int) (a6 : List tfqTopic.den) : Io.run tt hdzfqEnc dr lpzfqEnc iozfqEnc Go.Proofs.Tryz.f32 ((a0, (a1, a2, a3, a4, a5, a6, ()), ()), ()) = bodyzfqEnc a0 a1 a2 a3 a4 a5 a6 := by kernel_rfl
theorem okzfqEnc : HcOk prog 32 (ioHd iozfqEnc FzfqEnc) := by
  refine fn_sound (n := 400) hm (cs := cszfqEnc) (.cons okzfqFull (.cons oktbEW .nil)) (lp := lpzfqEnc) (fn := Go.Proofs.Tryz.f32) (by kernel_rfl) (by kernel_rfl) (by kernel_rfl) iozfqEnc (.done (by kernel_rfl)) FzfqEnc ?_
  rintro ⟨⟨(v : Int), m, ⟨⟩⟩, ⟨⟩⟩ out hw ho
  obtain ⟨hg, ho⟩ := Tr.guard ho
  simp only [Bool.and_eq_true, decide_eq_true_eq] at hg
  obtain ⟨h1, h2⟩ := hg
  have h1 : spfqLens m.2.2.2.2.2.1 = true := h1
  have h2 : 8 * spWt (spfqFull m) ≤ 4294967296 := h2
  cases ho
  show _ = some (Out.ret (((spfqW v m).1, ((spfqW v m).2, ())), ()))
  unfold spfqW
  obtain ⟨re, wt, mi, mb, lv, ts, ⟨⟩⟩ := m
  refine (runzfqEnc v re wt mi mb lv ts).trans ?_
  unfold bodyzfqEnc
  generalize spfqFull (re, (wt, (mi, (mb, (lv, (ts, ())))))) = n at h2 ⊢
  obtain ⟨nl, nk⟩ := n
  refine (bif_true h1 _ _).trans ?_
  exact bif_true (decide_eq_true h2) _ _
end
end Go.Proofs.YtjpeefegeobgfaaGreat.Sym
namespace Go.Proofs.YtjpeefegeobgfaaGreat.Sym
open Go
set_option linter.unusedSimpArgs false
set_option linter.unusedVariables false
noncomputable section
def wfqP (v : Int) (p : tfqPart.den) : List Int × Int := spSeq (spBE p.1 4, 0) (spSeq (if 3 ≤ v ∧ v ≤ 3 then (spBE p.2.2.1 4, 0) else ([], 0)) (spSeq (spBE p.2.1 8, 0) (spSeq (spBE p.2.2.2.1 4, 0) ([], 0))))
def wfqT (v : Int) (t : tfqTopic.den) : List Int × Int := spSeq (spTxt t.1) (spSeq (spArrW (wfqP v) t.2.1) ([], 0))
def wfqM (v : Int) (m : tfqMsg.den) : List Int × Int := spSeq (spBE m.1 4, 0) (spSeq (spBE m.2.1 4, 0) (spSeq (spBE m.2.2.1 4, 0) (spSeq (if 1 ≤ v ∧ v ≤ 3 then (spBE m.2.2.2.1 4, 0) else ([], 0)) (spSeq (if 2 ≤ v ∧ v ≤ 3 then (spBE m.2.2.2.2.1 1, 0) else ([], 0)) (spSeq (spArrW (wfqT v) m.2.2.2.2.2.1) (([], 0)))))))
theorem Wri.fqP (v : Int) (p : tfqPart.den) : Wri (wfqP v p) (spfqPE v p) := (Wri.put p.1 4).seq ((Wri.hasE v 3 3 p.2.2.1 4).seq ((Wri.put p.2.1 8).seq ((Wri.put p.2.2.2.1 4).seq (Wri.nop))))
theorem Wri.fqT (v : Int) (t : tfqTopic.den) : Wri (wfqT v t) (spfqTE v t) := (Wri.str _).seq ((Wri.items fun p hp => Wri.fqP v p).seq Wri.nop)
abbrev ffqP : Fd := fld [112, 97, 114, 116] 10 0 3 [fld [105, 110, 100, 101, 120] 3 0 3 [], fld [101, 112, 111, 99, 104] 3 3 3 [], fld [111, 102, 102, 115, 101, 116] 4 0 3 [], fld [109, 97, 120] 3 0 3 []]
abbrev ffqT : Fd := fld [116, 111, 112, 105, 99] 10 0 3 [fld [110, 97, 109, 101] 5 0 3 [], fld [112, 97, 114, 116, 115] 9 0 3 [ffqP]]
theorem spW_fqP {v : Int} {p : tfqPart.den} (hv : 0 ≤ v ∧ v ≤ 3) (h : tfqPart.wf p) : spW ffqP v (spfqF p) = wfqP v p := by
  unfold spfqF wfqP
  rw [spW_row, spWZ_has (spHas_in hv.1 hv.2), spWZ_o, spWZ_has (spHas_in hv.1 hv.2), spWZ_has (spHas_in hv.1 hv.2), spWZip_nl, spW_num (by decide) (w := 4) rfl (spFits_i32 h.1), spW_num (by decide) (w := 4) rfl (spFits_i32 h.2.2.1), spW_num (by decide) (w := 4) rfl (spFits_i32 h.2.2.2.1), spW_num (by decide) (w := 8) rfl (spFits_i64 p.2.1)]
  try rfl
theorem spW_fqT {v : Int} {t : tfqTopic.den} (hv : 0 ≤ v ∧ v ≤ 3) (h : tfqTopic.wf t) : spW ffqT v (spfqFT t) = wfqT v t := by
  unfold spfqFT wfqT
  rw [spW_row, spWZ_has (spHas_in hv.1 hv.2), spWZ_has (spHas_in hv.1 hv.2), spWZip_nl, spW_text, spW_rows, spArrW_congr fun p hp => spW_fqP hv (h.2.1.2 p hp)]
def okfqP (v : Int) (p : tfqPart.den) : Bool := (if 3 ≤ v ∧ v ≤ 3 then true else (p.2.2.1 == 0))
theorem spCut_fqP {v : Int} {p : tfqPart.den} (hv : 0 ≤ v ∧ v ≤ 3) : (spCut ffqP v (spfqF p)).2 = okfqP v p := by
  unfold spfqF okfqP
  rw [spCut_row, spCZ_has (spHas_in hv.1 hv.2), spCZ_opt, spCZ_has (spHas_in hv.1 hv.2), spCZ_has (spHas_in hv.1 hv.2), spCZ_nil, spCut_leaf (by decide) (by decide), spCut_leaf (by decide) (by decide), spCut_leaf (by decide) (by decide), spCut_leaf (by decide) (by decide), spZero_num]
  simp only [Bool.true_and, Bool.and_true]
theorem spCut_fqT {v : Int} {t : tfqTopic.den} (hv : 0 ≤ v ∧ v ≤ 3) : (spCut ffqT v (spfqFT t)).2 = t.2.1.all (okfqP v) := by
  unfold spfqFT
  rw [spCut_row, spCZ_has (spHas_in hv.1 hv.2), spCZ_has (spHas_in hv.1 hv.2), spCZ_nil, spCut_leaf (by decide) (by decide), spCut_rows]
  simp only [spCut_fqP hv, Bool.true_and, Bool.and_true]
theorem spWhole_fq (m : tfqMsg.den) : spWholeZ spT1q [ndNum 3 m.1, ndNum 3 m.2.1, ndNum 3 m.2.2.1, ndNum 3 m.2.2.2.1, ndNum 1 m.2.2.2.2.1, ndRows (m.2.2.2.2.2.1.map spfqFT)] := by
  unfold spT1q spTopics
  refine spWhole_cons (spWhole_leaf (by decide) (by decide)) (spWhole_cons (spWhole_leaf (by decide) (by decide)) (spWhole_cons (spWhole_leaf (by decide) (by decide)) (spWhole_cons (spWhole_leaf (by decide) (by decide)) (spWhole_cons (spWhole_leaf (by decide) (by decide)) (spWhole_cons ?_ spWhole_nil)))))
  refine spWhole_rows _ _ fun t => spWhole_row rfl (spWhole_cons (spWhole_leaf (by decide) (by decide)) (spWhole_cons ?_ spWhole_nil))
  exact spWhole_rows _ _ fun p => spWhole_row rfl (spWhole_cons (spWhole_leaf (by decide) (by decide)) (spWhole_cons (spWhole_leaf (by decide) (by decide)) (spWhole_cons (spWhole_leaf (by decide) (by decide)) (spWhole_cons (spWhole_leaf (by decide) (by decide)) spWhole_nil))))
def okfqM (v : Int) (m : tfqMsg.den) : Bool := (if 1 ≤ v ∧ v ≤ 3 then true else (m.2.2.2.1 == 0)) && ((if 2 ≤ v ∧ v ≤ 3 then true else (m.2.2.2.2.1 == 0)) && ((m.2.2.2.2.2.1.all fun t => t.2.1.all (okfqP v))))
theorem spfqLP_lk {e v : Int} {p : tfqPart.den} : spfqLP v p (e, (false, ([] : List Int))) = (spLk e (okfqP v p), (false, [])) := by
  unfold spfqLP okfqP
  rw [spLacks_lk]
theorem spfqLPs_lk {v : Int} : ∀ {ps : List tfqPart.den} {e : Int}, spfqLPs v ps (e, (false, ([] : List Int))) = (spLk e (ps.all (okfqP v)), (false, []))
  | [], e => by rw [List.all_nil, spLk_true]; rfl
  | p :: ps, e => by
    show spfqLPs v ps (spfqLP v p (e, (false, []))) = _
    rw [spfqLP_lk, spfqLPs_lk, spLk_and, List.all_cons]
theorem spfqLR_lk {v : Int} : ∀ {ts : List tfqTopic.den} {e : Int}, spfqLR v ts (e, (false, ([] : List Int))) = (spLk e (ts.all fun t => t.2.1.all (okfqP v)), (false, []))
  | [], e => by rw [List.all_nil, spLk_true]; rfl
  | t :: ts, e => by
    show spfqLR v ts (spfqLPs v t.2.1 (e, (false, []))) = _
    rw [spfqLPs_lk, spfqLR_lk, spLk_and, List.all_cons]
theorem cz_fq {v : Int} {m : tfqMsg.den} (hv : 0 ≤ v ∧ v ≤ 3) : (spCZip v spT1q [ndNum 3 m.1, ndNum 3 m.2.1, ndNum 3 m.2.2.1, ndNum 3 m.2.2.2.1, ndNum 1 m.2.2.2.2.1, ndRows (m.2.2.2.2.2.1.map spfqFT)]).2 = okfqM v m := by
  unfold spT1q spTopics okfqM
  rw [spCZ_has (spHas_in hv.1 hv.2), spCZ_has (spHas_in hv.1 hv.2), spCZ_has (spHas_in hv.1 hv.2), spCZ_opt, spCZ_opt, spCZ_has (spHas_in hv.1 hv.2), spCZ_nil, spCut_leaf (by decide) (by decide), spCut_leaf (by decide) (by decide), spCut_leaf (by decide) (by decide), spCut_leaf (by decide) (by decide), spCut_leaf (by decide) (by decide), spCut_rows, spZero_num, spZero_num]
  simp only [spCut_fqT hv, Bool.true_and, Bool.and_true, Bool.and_assoc]
theorem wz_fq {v : Int} {m : tfqMsg.den} (hv : 0 ≤ v ∧ v ≤ 3) (hm : tfqMsg.wf m) : spWZip v spT1q [ndNum 3 m.1, ndNum 3 m.2.1, ndNum 3 m.2.2.1, ndNum 3 m.2.2.2.1, ndNum 1 m.2.2.2.2.1, ndRows (m.2.2.2.2.2.1.map spfqFT)] = wfqM v m := by
  unfold spT1q spTopics wfqM
  rw [spWZ_has (spHas_in hv.1 hv.2), spWZ_has (spHas_in hv.1 hv.2), spWZ_has (spHas_in hv.1 hv.2), spWZ_o, spWZ_o, spWZ_has (spHas_in hv.1 hv.2), spWZip_nl, spW_num (by decide) (w := 4) rfl (spFits_i32 hm.1), spW_num (by decide) (w := 4) rfl (spFits_i32 hm.2.1), spW_num (by decide) (w := 4) rfl (spFits_i32 hm.2.2.1), spW_num (by decide) (w := 4) rfl (spFits_i32 hm.2.2.2.1), spW_num (by decide) (w := 1) rfl (spFits_i8 hm.2.2.2.2.1), spW_rows, spArrW_congr fun t ht => spW_fqT hv (hm.2.2.2.2.2.1.2 t ht)]
  try rfl
theorem fq_law {v : Int} {m : tfqMsg.den} (hm : tfqMsg.wf m) : (spDoneO (spfqE v m), spDoneE (spfqE v m)) = spfqW v m := by
  unfold spfqW spfqFull
  rw [spEW_eq (t := spT1q) rfl spChk_1q rfl (spWhole_fq m)]
  unfold spfqE
  rw [spLacks_lk, spLacks_lk, spfqLR_lk, spLk_and, spLk_and]
  have hr : Wri (wfqM v m) _ := (Wri.put m.1 4).seq ((Wri.put m.2.1 4).seq ((Wri.put m.2.2.1 4).seq ((Wri.hasE v 1 3 m.2.2.2.1 4).seq ((Wri.hasE v 2 3 m.2.2.2.2.1 1).seq ((Wri.items fun t ht => Wri.fqT v t).seq (Wri.nop))))))
  refine (hr.done _).trans ?_
  unfold spNewE
  by_cases hv : v < 0 ∨ 3 < v
  · rw [if_pos hv, if_pos hv]
    exact if_pos (by simp [spLk])
  rw [if_neg hv, if_neg hv]
  have hv' : 0 ≤ v ∧ v ≤ 3 := by omega
  rw [cz_fq hv', wz_fq hv' hm]
  show (if spLk 0 (okfqM v m) ≠ 0 then _ else _) = _
  cases hz : okfqM v m
  · exact (if_pos (by decide)).trans (show ([], spLk 0 (okfqM v m)) = _ by rw [hz]; rfl)
  · exact (if_neg (by decide)).trans (if_neg (by decide)).symm
--@alias efqMsg leat/fetch.EncodeReq
abbrev ioefqMsg : Io := iofqMsg
def FefqMsg (d : ioefqMsg.In) : Tr ioefqMsg.Res := .ret (.ret (((spfqW d.1.1 d.1.2.1).1, ((spfqW d.1.1 d.1.2.1).2, ())), ()))
theorem okefqMsg : HcOk prog 33 (ioHd ioefqMsg FefqMsg) := by
  refine HcOk.weakW okfqMsg ?_
  rintro ⟨⟨(v : Int), m, ⟨⟩⟩, ⟨⟩⟩ y hw hy
  rw [← hy]
  have h := fq_law (v := v) (m := m) hw.1.2.1
  show some (Out.ret ((spDoneO (spfqE v m), (spDoneE (spfqE v m), ())), ())) = some (Out.ret (((spfqW v m).1, ((spfqW v m).2, ())), ()))
  rw [← h]
theorem okfqP_iff {v : Int} {p : tfqPart.den} (h : okfqP v p = true) : (¬ (3 ≤ v ∧ v ≤ 3) → p.2.2.1 = 0) := by
  unfold okfqP at h
  exact fun hv => by have h1 := h; rw [if_neg hv] at h1; simpa using h1
theorem okfqM_iff {v : Int} {m : tfqMsg.den} (h : okfqM v m = true) : (¬ (1 ≤ v ∧ v ≤ 3) → m.2.2.2.1 = 0) ∧ (¬ (2 ≤ v ∧ v ≤ 3) → m.2.2.2.2.1 = 0) ∧ (m.2.2.2.2.2.1.all fun t => t.2.1.all (okfqP v)) = true := by
  unfold okfqM at h
  simp only [Bool.and_eq_true] at h
  exact ⟨fun hv => by have h1 := h.1; rw [if_neg hv] at h1; simpa using h1, fun hv => by have h1 := h.2.1; rw [if_neg hv] at h1; simpa using h1, h.2.2⟩
theorem Rd.fqP {b : List Int} {p : tfqPart.den} {v : Int} (h : tfqPart.wf p) (hk : okfqP v p = true) : Rd b p (wfqP v p) (spfqPD v b) :=
  (Rd.map (fun a => (a.1, (a.2.2.1, (a.2.1, (a.2.2.2.1, ()))))) (Rd.seq (fun a r => (a, r)) (Rd.num (wrapBE_i32 h.1)) (Rd.seq (fun a r => (a, r)) (Rd.opt (wrapBE_i32 h.2.2.1) (okfqP_iff hk)) (Rd.seq (fun a r => (a, r)) (Rd.num (wrapBE_i64 h.2.1)) (Rd.seq (fun a r => (a, r)) (Rd.num (wrapBE_i32 h.2.2.2.1)) (Rd.nop b ())))))).congr fun s => by unfold spfqPD; rfl
theorem Rd.fqT {b : List Int} {t : tfqTopic.den} {v : Int} (h : tfqTopic.wf t) (hk : t.2.1.all (okfqP v) = true) : Rd b t (wfqT v t) (spfqTD v b) :=
  (Rd.seq (fun a r => (a, r)) (Rd.txt t.1) (Rd.seq (fun a r => (a, r)) (Rd.list fun p hp => Rd.fqP (h.2.1.2 p hp) (List.all_eq_true.1 hk p hp)) (Rd.nop b ()))).congr fun s => by unfold spfqTD spfqPsD; rfl
theorem Rd.fqM {b : List Int} {m : tfqMsg.den} {v : Int} (h : tfqMsg.wf m) (hk0 : okfqM v m = true) : Rd b m (wfqM v m) (spfqDB v b) :=
  have hk := (okfqM_iff hk0).2.2
  (Rd.seq (fun a r => (a, r)) (Rd.num (wrapBE_i32 h.1)) (Rd.seq (fun a r => (a, r)) (Rd.num (wrapBE_i32 h.2.1)) (Rd.seq (fun a r => (a, r)) (Rd.num (wrapBE_i32 h.2.2.1)) (Rd.seq (fun a r => (a, r)) (Rd.opt (wrapBE_i32 h.2.2.2.1) (okfqM_iff hk0).1) (Rd.seq (fun a r => (a, r)) (Rd.opt (wrapBE_i8 h.2.2.2.2.1) (okfqM_iff hk0).2.1) (Rd.seq (fun a r => (a, r)) (Rd.list fun t ht => Rd.fqT (h.2.2.2.2.2.1.2 t ht) (List.all_eq_true.1 hk t ht)) (Rd.nop b ()))))))).congr fun s => by unfold spfqDB spfqTsD; rfl
theorem fq_wrote {v : Int} {m : tfqMsg.den} (hm : tfqMsg.wf m) (h : (spfqW v m).2 = 0) : 0 ≤ v ∧ v ≤ 3 ∧ okfqM v m = true ∧ (wfqM v m).2 = 0 ∧ (spfqW v m).1 = (wfqM v m).1 ∧ (spfqW v m).1.length ≤ 130048 := by
  have hlen : (spfqW v m).1.length ≤ 130048 := by unfold spfqW; exact spEW_len _ _ _ _
  unfold spfqW spfqFull at h hlen ⊢
  rw [spEW_eq (t := spT1q) rfl spChk_1q rfl (spWhole_fq m)] at h hlen ⊢
  by_cases hv : v < 0 ∨ 3 < v
  · rw [if_pos hv] at h; cases h
  rw [if_neg hv] at h hlen ⊢
  have hv' : 0 ≤ v ∧ v ≤ 3 := by omega
  rw [cz_fq hv', wz_fq hv' hm] at h hlen ⊢
  generalize hz : okfqM v m = z at h hlen ⊢
  cases z with
  | false => rw [if_pos rfl] at h; cases h
  | true =>
    rw [if_neg (by decide)] at h hlen ⊢
    by_cases h1 : (wfqM v m).2 = 0
    · rw [if_neg (by simpa using h1)] at h hlen ⊢
      by_cases h2 : 130048 < (wfqM v m).1.length
      · rw [if_pos h2] at h; cases h
      · rw [if_neg h2] at h hlen ⊢
        exact ⟨hv'.1, hv'.2, rfl, h1, rfl, hlen⟩
    · rw [if_pos h1] at h
      exact absurd h h1
theorem fq_back {v : Int} {m : tfqMsg.den} (hm : tfqMsg.wf m) (h : (spfqW v m).2 = 0) :
    spfqD v (spfqW v m).1 = (m, 0) ∧ (spfqD v ((spfqW v m).1.take ((spfqW v m).1.length - 1))).2 = 1 := by
  obtain ⟨h1, h2, h3, h4, h5, h6⟩ := fq_wrote hm h
  rw [h5] at h6 ⊢
  generalize hr : (wfqM v m).1 = r at h6 ⊢
  have hne : r ≠ [] := by
    intro e
    have h4c := h4
    have hl' : (wfqM v m).1.length = 0 := by rw [hr, e]; rfl
    unfold wfqM at h4c hl'
    have s0 := spSeq_zero h4c
    have l0 := congrArg List.length s0.2.2
    rw [List.length_append] at l0
    have s1 := spSeq_zero s0.2.1
    have l1 := congrArg List.length s1.2.2
    rw [List.length_append] at l1
    have s2 := spSeq_zero s1.2.1
    have l2 := congrArg List.length s2.2.2
    rw [List.length_append] at l2
    have s3 := spSeq_zero s2.2.1
    have l3 := congrArg List.length s3.2.2
    rw [List.length_append] at l3
    have s4 := spSeq_zero s3.2.1
    have l4 := congrArg List.length s4.2.2
    rw [List.length_append] at l4
    have s5 := spSeq_zero s4.2.1
    have l5 := congrArg List.length s5.2.2
    rw [List.length_append] at l5
    have h8 := spArrW_len s5.1
    omega
  refine ⟨?_, ?_⟩
  · have key := (Rd.fqM (b := r) hm h3 h4).full 0 [] (Nat.zero_le _) (by rw [hr]; simp)
    have key : spfqDB v r (0, 0) = (m, (0, ((0 + (wfqM v m).1.length : Nat) : Int))) := key
    rw [hr] at key
    unfold spfqD
    rw [if_pos ⟨h1, h2, by omega⟩, key]
    have he : spDEnd r (0, ((0 + r.length : Nat) : Int)) = 0 := by
      unfold spDEnd spEnd
      rw [if_pos rfl, if_neg (by omega)]
    rw [if_pos he]
  · obtain ⟨t, ht, htr⟩ := take_last hne
    have key := (Rd.fqM (b := r.take (r.length - 1)) hm h3 h4).short 0 t (Nat.zero_le _) ht (by rw [hr]; exact htr)
    have key : (spfqDB v (r.take (r.length - 1)) (0, 0)).2.1 = 1 := key
    unfold spfqD
    rw [if_pos ⟨h1, h2, by rw [List.length_take]; omega⟩]
    have he : spDEnd (r.take (r.length - 1)) (spfqDB v (r.take (r.length - 1)) (0, 0)).2 = 1 := by
      unfold spDEnd
      rw [if_neg (by rw [key]; decide)]; exact key
    rw [he, if_neg (by decide)]
end
end Go.Proofs.YtjpeefegeobgfaaGreat.Sym
namespace Go.Proofs.YtjpeefegeobgfaaGreat.Sym
open Go
set_option linter.unusedSimpArgs false
set_option linter.unusedVariables false
noncomputable section
abbrev tfrPart : Ty := .prod (.int .i32) (.prod (.int .i16) (.prod (.int .i64) (.prod (.int .i64) (.prod (.int .i64) (.prod tBlobT .unit)))))
abbrev tfrTopic : Ty := .prod .str (.prod (.sl 173 tfrPart) .unit)
abbrev tfrMsg : Ty := .prod (.int .i32) (.prod (.sl 169 tfrTopic) .unit)
def spfrPE (v : Int) (p : tfrPart.den) (s : EnS) : EnS := spBlobE p.2.2.2.2.2.1 (spHasE v 3 3 p.2.2.2.2.1 8 (spHasE v 2 3 p.2.2.2.1 8 (spPutE p.2.2.1 8 (spPutE p.2.1 2 (spPutE p.1 4 (s))))))
theorem spfrPE_le {s : EnS} (v : Int) (p : tfrPart.den) (h : s.2.2.length ≤ 130048) : (spfrPE v p s).2.2.length ≤ 130048 :=
  spBlobE_le _ (spHasE_le _ _ _ _ _ (spHasE_le _ _ _ _ _ (spPutE_le _ _ (spPutE_le _ _ (spPutE_le _ _ (h))))))
def frOk (p : tfrPart.den) : Bool := decide (p.2.2.2.2.2.1.2.1.length ≤ 2147483647)
def spfrOks (xs : List tfrPart.den) : Bool := xs.all frOk
abbrev iofrPart : Io := ⟨[.dat tfrPart true false, .ptr 0 0], oEnc1, [], [], none⟩
def FfrPart (d : iofrPart.In) : Tr iofrPart.Res := .ite (encOk d.2.2 && frOk d.1.1) (.ret (.ret ((), encOut1 d.2.2.1.2.1 (spfrPE d.2.2.1.2.1 d.1.1 (encSt d.2.2))))) .no
abbrev csfrPart : List (Nat × Hc) := [(108, ioHd ioeBlob FeBlob), (76, ioHd ioeI16 FeI16), (56, ioHd ioeI32 FeI32), (64, ioHd ioeI64 FeI64), (57, ioHd ioeHas FeHas)]
def hdfrPart : Hd := hdT csfrPart
def lpfrPart : Lp := lpT []
def bodyfrPart (a0 : Int) (a1 : Int) (a2 : Int) (a3 : Int) (a4 : Int) (a5 : Bool) (a6 : List Int) (a7 : Int) (a8 : Int) (a9 : Bool) (a10 : List Int) (a11 : Int) : Option iofrPart.Res := bif decide (a11 = 130048) && decide (a10.length ≤ 130048) then bif decide (130048 = 130048) && decide ((spPutE a0 4 (a8, a9, a10)).snd.snd.length ≤ 130048) then bif decide (130048 = 130048) && decide ((spPutE a1 2 (spPutE a0 4 (a8, a9, a10))).snd.snd.length ≤ 130048) then bif decide (130048 = 130048) && decide ((spPutE a2 8 (spPutE a1 2 (spPutE a0 4 (a8, a9, a10)))).snd.snd.length ≤ 130048) then bif decide (2 ≤ a7) && decide (a7 ≤ 3) then bif decide (130048 = 130048) && decide ((spPutE a2 8 (spPutE a1 2 (spPutE a0 4 (a8, a9, a10)))).snd.snd.length ≤ 130048) then bif decide (130048 = 130048) && decide ((spPutE a3 8 (spPutE a2 8 (spPutE a1 2 (spPutE a0 4 (a8, a9, a10))))).snd.snd.length ≤ 130048) then bif decide (3 ≤ a7) && decide (a7 ≤ 3) then bif decide (130048 = 130048) && decide ((spPutE a3 8 (spPutE a2 8 (spPutE a1 2 (spPutE a0 4 (a8, a9, a10))))).snd.snd.length ≤ 130048) then bif decide (130048 = 130048) && decide ((spPutE a4 8 (spPutE a3 8 (spPutE a2 8 (spPutE a1 2 (spPutE a0 4 (a8, a9, a10)))))).snd.snd.length ≤ 130048) && decide (a6.length ≤ 2147483647) then some (Out.ret ((), ((), ()), ((), a7, (spBlobE (a5, a6, ()) (spPutE a4 8 (spPutE a3 8 (spPutE a2 8 (spPutE a1 2 (spPutE a0 4 (a8, a9, a10))))))).fst, (spBlobE (a5, a6, ()) (spPutE a4 8 (spPutE a3 8 (spPutE a2 8 (spPutE a1 2 (spPutE a0 4 (a8, a9, a10))))))).snd.fst, ()), ((spBlobE (a5, a6, ()) (spPutE a4 8 (spPutE a3 8 (spPutE a2 8 (spPutE a1 2 (spPutE a0 4 (a8, a9, a10))))))).snd.snd, 130048, ()), ())) else none else none else bif decide (130048 = 130048) && decide ((spPutE a3 8 (spPutE a2 8 (spPutE a1 2 (spPutE a0 4 (a8, a9, a10))))).snd.snd.length ≤ 130048) && decide (a6.length ≤ 2147483647) then some (Out.ret ((), ((), ()), ((), a7, (spBlobE (a5, a6, ()) (spPutE a3 8 (spPutE a2 8 (spPutE a1 2 (spPutE a0 4 (a8, a9, a10)))))).fst, (spBlobE (a5, a6, ()) (spPutE a3 8 (spPutE a2 8 (spPutE a1 2 (spPutE a0 4 (a8, a9, a10)))))).snd.fst, ()), ((spBlobE (a5, a6, ()) (spPutE a3 8 (spPutE a2 8 (spPutE a1 2 (spPutE a0 4 (a8, a9, a10)))))).snd.snd, 130048, ()), ())) else none else none else none else bif decide (130048 = 130048) && decide ((spPutE a2 8 (spPutE a1 2 (spPutE a0 4 (a8, a9, a10)))).snd.snd.length ≤ 130048) then bif decide (3 ≤ a7) && decide (a7 ≤ 3) then bif decide (130048 = 130048) && decide ((spPutE a2 8 (spPutE a1 2 (spPutE a0 4 (a8, a9, a10)))).snd.snd.length ≤ 130048) then bif decide (130048 = 130048) && decide ((spPutE a4 8 (spPutE a2 8 (spPutE a1 2 (spPutE a0 4 (a8, a9, a10))))).snd.snd.length ≤ 130048) && decide (a6.length ≤ 2147483647) then some (Out.ret ((), ((), ()), ((), a7, (spBlobE (a5, a6, ()) (spPutE a4 8 (spPutE a2 8 (spPutE a1 2 (spPutE a0 4 (a8, a9, a10)))))).fst, (spBlobE (a5, a6, ()) (spPutE a4 8 (spPutE a2 8 (spPutE a1 2 (spPutE a0 4 (a8, a9, a10)))))).snd.fst, ()), ((spBlobE (a5, a6, ()) (spPutE a4 8 (spPutE a2 8 (spPutE a1 2 (spPutE a0 4 (a8, a9, a10)))))).snd.snd, 130048, ()), ())) else none else none else bif decide (130048 = 130048) && decide ((spPutE a2 8 (spPutE a1 2 (spPutE a0 4 (a8, a9, a10)))).snd.snd.length ≤ 130048) && decide (a6.length ≤ 2147483647) then some (Out.ret ((), ((), ()), ((), a7, (spBlobE (a5, a6, ()) (spPutE a2 8 (spPutE a1 2 (spPutE a0 4 (a8, a9, a10))))).fst, (spBlobE (a5, a6, ()) (spPutE a2 8 (spPutE a1 2 (spPutE a0 4 (a8, a9, a10))))).snd.fst, ()), ((spBlobE (a5, a6, ()) (spPutE a2 8 (spPutE a1 2 (spPutE a0 4 (a8, a9, a10))))).snd.snd, 130048, ()), ())) else none else none else none else none else none else none
theorem runfrPart (a0 : Int) (a1 : Int) (a2 : Int) (a3 : Int) (a4 : Int) (a5 : Bool) (a6 : List Int) (a7 : Int) (a8 : Int) (a9 : Bool) (a10 : List Int) (a11 : Int) : Io.run tt hdfrPart dr lpfrPart iofrPart Go.Proofs.Tryz.f107 (((a0, a1, a2, a3, a4, (a5, a6, ()), ()), (), ()), ((), ()), ((), a7, a8, a9, ()), (a10, a11, ()), ()) = bodyfrPart a0 a1 a2 a3 a4 a5 a6 a7 a8 a9 a10 a11 := by kernel_rfl
theorem okfrPart : HcOk prog 107 (ioHd iofrPart FfrPart) := by
  refine fn_sound (n := 400) hm (cs := csfrPart) (.cons okeBlob (.cons okeI16 (.cons okeI32 (.cons okeI64 (.cons okeHas .nil))))) (lp := lpfrPart) (fn := Go.Proofs.Tryz.f107) (by kernel_rfl) (by kernel_rfl) (by kernel_rfl) iofrPart (.done (by kernel_rfl)) FfrPart ?_
  rintro ⟨⟨⟨(ix : Int), (cd : Int), (hi : Int), (st : Int), (sa : Int), ⟨(rcz : Bool), (rcx : List Int), ⟨⟩⟩, ⟨⟩⟩, ⟨⟩, ⟨⟩⟩, ⟨⟨⟩, ⟨⟩⟩, ⟨⟨⟩, (v : Int), (e : Int), (f : Bool), ⟨⟩⟩, ⟨(b : List Int), (m : Int), ⟨⟩⟩, ⟨⟩⟩ out hw ho
  obtain ⟨hg, ho⟩ := Tr.guard ho
  obtain ⟨hg, hok⟩ := Bool.and_eq_true_iff.1 hg
  obtain ⟨rfl, hb⟩ := encOk_iff (v := v) (e := e) (f := f) hg
  have hbrcx : decide ((rcz, (rcx, ())).2.1.length ≤ 2147483647) = true := hok
  cases ho
  refine (runfrPart ix cd hi st sa rcz rcx v e f b 130048).trans ?_
  unfold bodyfrPart
  have hg : ∀ s : EnS, s.2.2.length ≤ 130048 → (decide ((130048 : Int) = 130048) && decide (s.2.2.length ≤ 130048)) = true := fun s h => by simpa using h
  have hb : (e, (f, b)).2.2.length ≤ 130048 := hb
  show _ = some (Out.ret ((), encOut1 v (spfrPE v (ix, (cd, (hi, (st, (sa, ((rcz, (rcx, ())), ())))))) (e, f, b))))
  refine (bif_true (hg _ hb) _ _).trans ?_
  have l0_1 := spPutE_le ix 4 hb
  refine (bif_true (hg _ l0_1) _ _).trans ?_
  have l1_1 := spPutE_le cd 2 l0_1
  refine (bif_true (hg _ l1_1) _ _).trans ?_
  have l2_1 := spPutE_le hi 8 l1_1
  refine (bif_true (hg _ l2_1) _ _).trans ?_
  by_cases h3_1 : 2 ≤ v ∧ v ≤ 3
  · refine (bif_true (by simpa using h3_1) _ _).trans ?_
    refine (bif_true (hg _ l2_1) _ _).trans ?_
    have l3_1 := spPutE_le st 8 l2_1
    refine (bif_true (hg _ l3_1) _ _).trans ?_
    by_cases h4_2 : 3 ≤ v ∧ v ≤ 3
    · refine (bif_true (by simpa using h4_2) _ _).trans ?_
      refine (bif_true (hg _ l3_1) _ _).trans ?_
      have l4_2 := spPutE_le sa 8 l3_1
      refine (bif_true (Bool.and_eq_true_iff.2 ⟨hg _ l4_2, hbrcx⟩) _ _).trans ?_
      have l5_3 := spBlobE_le (rcz, (rcx, ())) l4_2
      simp only [spfrPE, spHasE_in h3_1, spHasE_in h4_2]
    · refine (bif_false (Bool.eq_false_iff.2 fun h' => h4_2 (by simpa using h')) _ _).trans ?_
      refine (bif_true (Bool.and_eq_true_iff.2 ⟨hg _ l3_1, hbrcx⟩) _ _).trans ?_
      have l5_3 := spBlobE_le (rcz, (rcx, ())) l3_1
      simp only [spfrPE, spHasE_in h3_1, spHasE_out h4_2]
  · refine (bif_false (Bool.eq_false_iff.2 fun h' => h3_1 (by simpa using h')) _ _).trans ?_
    refine (bif_true (hg _ l2_1) _ _).trans ?_
    by_cases h4_2 : 3 ≤ v ∧ v ≤ 3
    · refine (bif_true (by simpa using h4_2) _ _).trans ?_
      refine (bif_true (hg _ l2_1) _ _).trans ?_
      have l4_2 := spPutE_le sa 8 l2_1
      refine (bif_true (Bool.and_eq_true_iff.2 ⟨hg _ l4_2, hbrcx⟩) _ _).trans ?_
      have l5_3 := spBlobE_le (rcz, (rcx, ())) l4_2
      simp only [spfrPE, spHasE_out h3_1, spHasE_in h4_2]
    · refine (bif_false (Bool.eq_false_iff.2 fun h' => h4_2 (by simpa using h')) _ _).trans ?_
      refine (bif_true (Bool.and_eq_true_iff.2 ⟨hg _ l2_1, hbrcx⟩) _ _).trans ?_
      have l5_3 := spBlobE_le (rcz, (rcx, ())) l2_1
      simp only [spfrPE, spHasE_out h3_1, spHasE_out h4_2]
def spfrPsE (v : Int) (xs : List tfrPart.den) (s : EnS) : EnS := spItems (spfrPE v) xs s
abbrev iofrParts : Io := ⟨[.ptr 0 0, .dat (.sl 173 tfrPart) false false, .fnc 107 false [2]], oEncC, [], [], none⟩
def FfrParts (d : iofrParts.In) : Tr iofrParts.Res := .ite (encOkC d.2 && spfrOks d.1.2.1) (.ret (.ret ((), encOutC d.2.1.2.1 (spfrPsE d.2.1.2.1 d.1.2.1 (encStC d.2))))) .no
abbrev csfrParts : List (Nat × Hc) := [(137, ioHd ioeFail FeFail), (56, ioHd ioeI32 FeI32), (107, ioHd iofrPart FfrPart)]
def hdfrParts : Hd := hdT csfrParts
abbrev lofrParts_5 : Lo := ⟨⟨[.any, .any, .one (.fnp 107 false [2]), .any, .any, .any, .any, .any, .any, .any, .any, .any, .any, .any, .any, .any, .any, .any, .one (.hol (.sl 173 tfrPart)), .one (.hol (.int IntKind.i64)), .one (.hol (.int IntKind.i64)), .any, .any, .any, .any, .any, .any, .any], [some [.ptr 1 0, .hol (.int IntKind.i64), .hol (.int IntKind.i64), .hol .bool], some [.onl 5 (Ty.int IntKind.u8) 514, .hol (.int IntKind.i64)], some [.ptr 0 0]]⟩, [(.exit 0, ⟨[.any, .any, .any, .any, .any, .any, .any, .any, .any, .any, .any, .any, .any, .any, .any, .any, .any, .any, .any, .any, .any, .any, .any, .any, .any, .any, .any, .any], [some [.ptr 1 0, .hol (.int IntKind.i64), .hol (.int IntKind.i64), .hol .bool], some [.onl 5 (Ty.int IntKind.u8) 514, .hol (.int IntKind.i64)], some [.ptr 0 0]]⟩)]⟩
-- FfrParts_5 : lofrParts_5.st.den → Tr (DenX lofrParts_5.xs) | ((h6, (h7, (h8, ()))), ((h9, (h10, (h11, ()))), ((h12, (h13, ())), ((), ()))))
def FfrParts_5 (d : lofrParts_5.st.den) : Tr (DenX lofrParts_5.xs) :=
  .ite (decide (d.1.2.2.1 = 0) && (decide (d.1.2.1 = (d.1.1.length : Int)) && (decide (d.2.2.1.2.1 = 130048) && (decide (d.2.2.1.1.length ≤ 130048) && spfrOks d.1.1)))) (.ret (.ret ((), ((), encOutB d.2.1.1 (d.1.1.foldl (fun s x => spfrPE d.2.1.1 x s) (d.2.1.2.1, (d.2.1.2.2.1, d.2.2.1.1))))))) .no
def lpfrParts : Lp := lpT [(5, loHd lofrParts_5 FfrParts_5)]
def stepfrParts_5 {R : Type} (h6 : List tfrPart.den) (h7 : Int) (h8 : Int) (h9 : Int) (h10 : Int) (h11 : Bool) (h12 : List Int) (h13 : Int) (next : List tfrPart.den → Int → Int → Int → Int → Bool → List Int → Int → Option R) (out : DenX lofrParts_5.xs → Option R) : Option R := bif decide (h8 < h7) then bif decide (0 ≤ h8) && decide (h8 < (↑h6.length : Int)) then bif decide (h13 = 130048) && decide (h12.length ≤ 130048) && decide (List.length (h6.getD h8.toNat (0, 0, 0, 0, 0, (false, [], ()), ())).snd.snd.snd.snd.snd.fst.snd.fst ≤ 2147483647) then next (h6) (h7) (IntKind.i64.wrap (h8 + 1)) (h9) ((spfrPE h9 (h6.getD h8.toNat (0, 0, 0, 0, 0, (false, [], ()), ())) (h10, h11, h12)).fst) ((spfrPE h9 (h6.getD h8.toNat (0, 0, 0, 0, 0, (false, [], ()), ())) (h10, h11, h12)).snd.fst) ((spfrPE h9 (h6.getD h8.toNat (0, 0, 0, 0, 0, (false, [], ()), ())) (h10, h11, h12)).snd.snd) (130048) else none else none else out (.ret ((), ((), ((h9, (h10, (h11, ()))), ((h12, (h13, ())), ((), ()))))))
def itfrParts_5 (n : Nat) (h6 : List tfrPart.den) (h7 : Int) (h8 : Int) (h9 : Int) (h10 : Int) (h11 : Bool) (h12 : List Int) (h13 : Int) : Option (DenX lofrParts_5.xs) := lpN tt hdfrParts dr lpfrParts 3 Go.Proofs.Tryz.f106 (topL Go.Proofs.Tryz.f106 0) n (lofrParts_5.st.mk' ((h6, (h7, (h8, ()))), ((h9, (h10, (h11, ()))), ((h12, (h13, ())), ((), ()))))) (decX lofrParts_5.xs)
theorem slfrParts_5 (n : Nat) (h6 : List tfrPart.den) (h7 : Int) (h8 : Int) (h9 : Int) (h10 : Int) (h11 : Bool) (h12 : List Int) (h13 : Int) : itfrParts_5 (n + 1) h6 h7 h8 h9 h10 h11 h12 h13 = stepfrParts_5 h6 h7 h8 h9 h10 h11 h12 h13 (itfrParts_5 n) some := by kernel_rfl
theorem loopfrParts {xs : List tfrPart.den} (v : Int) (hl : xs.length ≤ maxLen) (hok : ∀ x ∈ xs, frOk x = true) : ∀ (k i : Nat) (s : EnS), xs.length < i + k → i ≤ xs.length → s.2.2.length ≤ 130048 →
    itfrParts_5 k xs (xs.length : Int) i v s.1 s.2.1 s.2.2 130048 = some (.ret ((), ((), encOutB v ((xs.drop i).foldl (fun s x => spfrPE v x s) s)))) := by
  intro k
  induction k with
  | zero => intro i s h; omega
  | succ k ih =>
    intro i s h1 h2 h3
    rw [slfrParts_5]
    unfold stepfrParts_5
    by_cases hi : i < xs.length
    · refine (bif_true (decide_eq_true (show (i : Int) < (xs.length : Int) by omega)) _ _).trans ?_
      refine (bif_true (by simpa using hi) _ _).trans ?_
      simp only [Int.toNat_natCast, getD_lt hi, wrap_succ hi hl]
      have g : (decide ((130048 : Int) = 130048) && decide (s.2.2.length ≤ 130048) && frOk xs[i]) = true := by
        rw [hok _ (List.getElem_mem hi)]; simpa using h3
      refine (bif_true g _ _).trans ?_
      rw [List.drop_eq_getElem_cons hi]
      exact ih (i + 1) (spfrPE v xs[i] s) (by omega) (by omega) (spfrPE_le v _ h3)
    · refine (bif_false (by simp; omega) _ _).trans ?_
      rw [List.drop_of_length_le (by omega)]
      rfl
def bodyfrParts (a0 : List tfrPart.den) (a1 : Int) (a2 : Int) (a3 : Bool) (a4 : List Int) (a5 : Int) : Option iofrParts.Res := bif decide (16 < (↑a0.length : Int)) then bif decide (a5 = 130048) && decide (a4.length ≤ 130048) then some (Out.ret ((), ((), a1, (spFail 9 (a2, a3, a4)).fst, (spFail 9 (a2, a3, a4)).snd.fst, ()), ((spFail 9 (a2, a3, a4)).snd.snd, 130048, ()), ((), ()), ())) else none else bif decide (a5 = 130048) && decide (a4.length ≤ 130048) then (FfrParts_5 ((a0, ((↑a0.length : Int), (0, ()))), ((a1, ((spPutE (IntKind.i32.wrap (↑a0.length : Int)) 4 (a2, a3, a4)).fst, ((spPutE (IntKind.i32.wrap (↑a0.length : Int)) 4 (a2, a3, a4)).snd.fst, ()))), (((spPutE (IntKind.i32.wrap (↑a0.length : Int)) 4 (a2, a3, a4)).snd.snd, (130048, ())), ((), ()))))).run fun y => match y with | .ret ((), ((), (x27, x28, x29, ()), (x30, x31, ()), (), ())) => (some (Out.ret ((), ((), x27, x28, x29, ()), (x30, x31, ()), ((), ()), ()))) else none
theorem runfrParts (a0 : List tfrPart.den) (a1 : Int) (a2 : Int) (a3 : Bool) (a4 : List Int) (a5 : Int) : Io.run tt hdfrParts dr lpfrParts iofrParts Go.Proofs.Tryz.f106 (((), a0, (), ()), ((), a1, a2, a3, ()), (a4, a5, ()), ((), ()), ()) = bodyfrParts a0 a1 a2 a3 a4 a5 := by kernel_rfl
theorem okfrParts : HcOk prog 106 (ioHd iofrParts FfrParts) := by
  refine fn_sound (n := 400) hm (cs := csfrParts) (.cons okeFail (.cons okeI32 (.cons okfrPart .nil))) (lp := lpfrParts) (fn := Go.Proofs.Tryz.f106) (by kernel_rfl) (by kernel_rfl) (by kernel_rfl) iofrParts (.step (h0 := loHd lofrParts_5 FfrParts_5) (by kernel_rfl) (loop_sound (n := 400) hm (cs := csfrParts) (.cons okeFail (.cons okeI32 (.cons okfrPart .nil))) (lp := lpfrParts) (fn := Go.Proofs.Tryz.f106) (.done (by kernel_rfl)) lofrParts_5 FfrParts_5 ?_) (.done (by kernel_rfl))) FfrParts ?_
  · rintro ⟨⟨(xs : List tfrPart.den), (n : Int), (i : Int), ⟨⟩⟩, ⟨⟨(v : Int), (e : Int), (f : Bool), ⟨⟩⟩, ⟨(b : List Int), (m : Int), ⟨⟩⟩, ⟨⟨⟩, ⟨⟩⟩⟩⟩ y hw hy
    obtain ⟨hg, hy⟩ := Tr.guard hy
    simp only [Bool.and_eq_true, decide_eq_true_eq] at hg
    obtain ⟨rfl, rfl, rfl, h4, h5⟩ := hg
    have h5 : ∀ x ∈ xs, frOk x = true := List.all_eq_true.1 h5
    have h4 : b.length ≤ 130048 := h4
    have hl : xs.length ≤ maxLen := hw.1.1.1
    refine ⟨xs.length + 1, (loopfrParts v hl h5 (xs.length + 1) 0 (e, (f, b)) (by omega) (by omega) h4).trans ?_⟩
    rw [← hy]; rfl
  · rintro ⟨⟨⟨⟩, (xs : List tfrPart.den), ⟨⟩, ⟨⟩⟩, ⟨⟨⟩, (v : Int), (e : Int), (f : Bool), ⟨⟩⟩, ⟨(b : List Int), (m : Int), ⟨⟩⟩, ⟨⟨⟩, ⟨⟩⟩, ⟨⟩⟩ out hw ho
    obtain ⟨hg, ho⟩ := Tr.guard ho
    obtain ⟨hg, h5⟩ := Bool.and_eq_true_iff.1 hg
    have h5 : spfrOks xs = true := h5
    obtain ⟨rfl, hb⟩ := encOk_iff (v := v) (e := e) (f := f) hg
    cases ho
    refine (runfrParts xs v e f b 130048).trans ?_
    unfold bodyfrParts
    have g : (decide ((130048 : Int) = 130048) && decide (b.length ≤ 130048)) = true := by simpa using hb
    show _ = some (Out.ret ((), encOutC v (spItems (spfrPE v) xs (e, f, b))))
    unfold spItems
    by_cases h : 16 < (xs.length : Int)
    · rw [if_pos h]
      refine (bif_true (decide_eq_true h) _ _).trans ?_
      exact bif_true g _ _
    · rw [if_neg h]
      refine (bif_false (decide_eq_false h) _ _).trans ?_
      refine (bif_true g _ _).trans ?_
      have hw32 : IntKind.i32.wrap (xs.length : Int) = xs.length := wrap_id (by simp [inR, IntKind.min, IntKind.max, IntKind.signed, IntKind.bits]; omega)
      rw [hw32]
      have c1 : (decide ((0 : Int) = 0) && (decide ((xs.length : Int) = (xs.length : Int)) && (decide ((130048 : Int) = 130048) && (decide ((spPutE xs.length 4 (e, f, b)).2.2.length ≤ 130048) && spfrOks xs)))) = true := by
        rw [h5]; simpa using spPutE_le (s := (e, f, b)) _ 4 hb
      have e1 : FfrParts_5 ((xs, ((xs.length : Int), (0, ()))), ((v, ((spPutE xs.length 4 (e, f, b)).1, ((spPutE xs.length 4 (e, f, b)).2.1, ()))), (((spPutE xs.length 4 (e, f, b)).2.2, (130048, ())), ((), ())))) =
          .ite true (.ret (.ret ((), ((), encOutB v (xs.foldl (fun s x => spfrPE v x s) (spPutE xs.length 4 (e, f, b))))))) .no := congrArg (fun c => Tr.ite c _ _) c1
      rw [e1]
      rfl
def spfrTE (v : Int) (t : tfrTopic.den) (s : EnS) : EnS := spfrPsE v t.2.1 (spStrE t.1 s)
def frOkT (t : tfrTopic.den) : Bool := spfrOks t.2.1
def spfrOkTs (xs : List tfrTopic.den) : Bool := xs.all frOkT
abbrev iofrTopic : Io := ⟨[.dat tfrTopic true false, .ptr 0 0], oEnc1, [], [], none⟩
def FfrTopic (d : iofrTopic.In) : Tr iofrTopic.Res := .ite (encOk d.2.2 && frOkT d.1.1) (.ret (.ret ((), encOut1 d.2.2.1.2.1 (spfrTE d.2.2.1.2.1 d.1.1 (encSt d.2.2))))) .no
abbrev csfrTopic : List (Nat × Hc) := [(61, ioHd ioeStr FeStr), (106, ioHd iofrParts FfrParts)]
def hdfrTopic : Hd := hdT csfrTopic
def lpfrTopic : Lp := lpT []
def bodyfrTopic (a0 : List Int) (a1 : List tfrPart.den) (a2 : Int) (a3 : Int) (a4 : Bool) (a5 : List Int) (a6 : Int) : Option iofrTopic.Res := bif decide (a6 = 130048) && decide (a5.length ≤ 130048) then bif decide (130048 = 130048) && decide ((spStrE a0 (a3, a4, a5)).snd.snd.length ≤ 130048) && spfrOks a1 then some (Out.ret ((), ((), ()), ((), a2, (spfrPsE a2 a1 (spStrE a0 (a3, a4, a5))).fst, (spfrPsE a2 a1 (spStrE a0 (a3, a4, a5))).snd.fst, ()), ((spfrPsE a2 a1 (spStrE a0 (a3, a4, a5))).snd.snd, 130048, ()), ())) else none else none
theorem runfrTopic (a0 : List Int) (a1 : List tfrPart.den) (a2 : Int) (a3 : Int) (a4 : Bool) (a5 : List Int) (a6 : Int) : Io.run tt hdfrTopic dr lpfrTopic iofrTopic Go.Proofs.Tryz.f105 (((a0, a1, ()), (), ()), ((), ()), ((), a2, a3, a4, ()), (a5, a6, ()), ()) = bodyfrTopic a0 a1 a2 a3 a4 a5 a6 := by kernel_rfl
theorem okfrTopic : HcOk prog 105 (ioHd iofrTopic FfrTopic) := by
  refine fn_sound (n := 400) hm (cs := csfrTopic) (.cons okeStr (.cons okfrParts .nil)) (lp := lpfrTopic) (fn := Go.Proofs.Tryz.f105) (by kernel_rfl) (by kernel_rfl) (by kernel_rfl) iofrTopic (.done (by kernel_rfl)) FfrTopic ?_
  rintro ⟨⟨⟨(t : List Int), (ps : List tfrPart.den), ⟨⟩⟩, ⟨⟩, ⟨⟩⟩, ⟨⟨⟩, ⟨⟩⟩, ⟨⟨⟩, (v : Int), (e : Int), (f : Bool), ⟨⟩⟩, ⟨(b : List Int), (m : Int), ⟨⟩⟩, ⟨⟩⟩ out hw ho
  obtain ⟨hg, ho⟩ := Tr.guard ho
  obtain ⟨hg, h5⟩ := Bool.and_eq_true_iff.1 hg
  have h5 : spfrOks ps = true := h5
  obtain ⟨rfl, hb⟩ := encOk_iff (v := v) (e := e) (f := f) hg
  cases ho
  refine (runfrTopic t ps v e f b 130048).trans ?_
  unfold bodyfrTopic
  refine (bif_true (by simpa using hb) _ _).trans ?_
  refine (bif_true (Bool.and_eq_true_iff.2 ⟨by simpa using spStrE_le (s := (e, f, b)) t hb, h5⟩) _ _).trans ?_
  rfl
theorem spfrTE_le {s : EnS} (v : Int) (t : tfrTopic.den) (h : s.2.2.length ≤ 130048) : (spfrTE v t s).2.2.length ≤ 130048 := spItems_le (fun x s => spfrPE_le v x) _ (spStrE_le _ h)
def spfrTsE (v : Int) (xs : List tfrTopic.den) (s : EnS) : EnS := spItems (spfrTE v) xs s
abbrev iofrTopics : Io := ⟨[.ptr 0 0, .dat (.sl 169 tfrTopic) false false, .fnc 105 false [2]], oEncC, [], [], none⟩
def FfrTopics (d : iofrTopics.In) : Tr iofrTopics.Res := .ite (encOkC d.2 && spfrOkTs d.1.2.1) (.ret (.ret ((), encOutC d.2.1.2.1 (spfrTsE d.2.1.2.1 d.1.2.1 (encStC d.2))))) .no
abbrev csfrTopics : List (Nat × Hc) := [(137, ioHd ioeFail FeFail), (56, ioHd ioeI32 FeI32), (105, ioHd iofrTopic FfrTopic)]
def hdfrTopics : Hd := hdT csfrTopics
abbrev lofrTopics_5 : Lo := ⟨⟨[.any, .any, .one (.fnp 105 false [2]), .any, .any, .any, .any, .any, .any, .any, .any, .any, .any, .any, .any, .any, .any, .any, .one (.hol (.sl 169 tfrTopic)), .one (.hol (.int IntKind.i64)), .one (.hol (.int IntKind.i64)), .any, .any, .any, .any, .any, .any, .any], [some [.ptr 1 0, .hol (.int IntKind.i64), .hol (.int IntKind.i64), .hol .bool], some [.onl 5 (Ty.int IntKind.u8) 514, .hol (.int IntKind.i64)], some [.ptr 0 0]]⟩, [(.exit 0, ⟨[.any, .any, .any, .any, .any, .any, .any, .any, .any, .any, .any, .any, .any, .any, .any, .any, .any, .any, .any, .any, .any, .any, .any, .any, .any, .any, .any, .any], [some [.ptr 1 0, .hol (.int IntKind.i64), .hol (.int IntKind.i64), .hol .bool], some [.onl 5 (Ty.int IntKind.u8) 514, .hol (.int IntKind.i64)], some [.ptr 0 0]]⟩)]⟩
-- FfrTopics_5 : lofrTopics_5.st.den → Tr (DenX lofrTopics_5.xs) | ((h6, (h7, (h8, ()))), ((h9, (h10, (h11, ()))), ((h12, (h13, ())), ((), ()))))
def FfrTopics_5 (d : lofrTopics_5.st.den) : Tr (DenX lofrTopics_5.xs) :=
  .ite (decide (d.1.2.2.1 = 0) && (decide (d.1.2.1 = (d.1.1.length : Int)) && (decide (d.2.2.1.2.1 = 130048) && (decide (d.2.2.1.1.length ≤ 130048) && spfrOkTs d.1.1)))) (.ret (.ret ((), ((), encOutB d.2.1.1 (d.1.1.foldl (fun s x => spfrTE d.2.1.1 x s) (d.2.1.2.1, (d.2.1.2.2.1, d.2.2.1.1))))))) .no
def lpfrTopics : Lp := lpT [(5, loHd lofrTopics_5 FfrTopics_5)]
def stepfrTopics_5 {R : Type} (h6 : List tfrTopic.den) (h7 : Int) (h8 : Int) (h9 : Int) (h10 : Int) (h11 : Bool) (h12 : List Int) (h13 : Int) (next : List tfrTopic.den → Int → Int → Int → Int → Bool → List Int → Int → Option R) (out : DenX lofrTopics_5.xs → Option R) : Option R := bif decide (h8 < h7) then bif decide (0 ≤ h8) && decide (h8 < (↑h6.length : Int)) then bif decide (h13 = 130048) && decide (h12.length ≤ 130048) && spfrOks (h6.getD h8.toNat ([], [], ())).snd.fst then next (h6) (h7) (IntKind.i64.wrap (h8 + 1)) (h9) ((spfrTE h9 (h6.getD h8.toNat ([], [], ())) (h10, h11, h12)).fst) ((spfrTE h9 (h6.getD h8.toNat ([], [], ())) (h10, h11, h12)).snd.fst) ((spfrTE h9 (h6.getD h8.toNat ([], [], ())) (h10, h11, h12)).snd.snd) (130048) else none else none else out (.ret ((), ((), ((h9, (h10, (h11, ()))), ((h12, (h13, ())), ((), ()))))))
def itfrTopics_5 (n : Nat) (h6 : List tfrTopic.den) (h7 : Int) (h8 : Int) (h9 : Int) (h10 : Int) (h11 : Bool) (h12 : List Int) (h13 : Int) : Option (DenX lofrTopics_5.xs) := lpN tt hdfrTopics dr lpfrTopics 3 Go.Proofs.Tryz.f104 (topL Go.Proofs.Tryz.f104 0) n (lofrTopics_5.st.mk' ((h6, (h7, (h8, ()))), ((h9, (h10, (h11, ()))), ((h12, (h13, ())), ((), ()))))) (decX lofrTopics_5.xs)
theorem slfrTopics_5 (n : Nat) (h6 : List tfrTopic.den) (h7 : Int) (h8 : Int) (h9 : Int) (h10 : Int) (h11 : Bool) (h12 : List Int) (h13 : Int) : itfrTopics_5 (n + 1) h6 h7 h8 h9 h10 h11 h12 h13 = stepfrTopics_5 h6 h7 h8 h9 h10 h11 h12 h13 (itfrTopics_5 n) some := by kernel_rfl
theorem loopfrTopics {xs : List tfrTopic.den} (v : Int) (hl : xs.length ≤ maxLen) (hok : ∀ x ∈ xs, frOkT x = true) : ∀ (k i : Nat) (s : EnS), xs.length < i + k → i ≤ xs.length → s.2.2.length ≤ 130048 →
    itfrTopics_5 k xs (xs.length : Int) i v s.1 s.2.1 s.2.2 130048 = some (.ret ((), ((), encOutB v ((xs.drop i).foldl (fun s x => spfrTE v x s) s)))) := by
  intro k
  induction k with
  | zero => intro i s h; omega
  | succ k ih =>
    intro i s h1 h2 h3
    rw [slfrTopics_5]
    unfold stepfrTopics_5
    by_cases hi : i < xs.length
    · refine (bif_true (decide_eq_true (show (i : Int) < (xs.length : Int) by omega)) _ _).trans ?_
      refine (bif_true (by simpa using hi) _ _).trans ?_
      simp only [Int.toNat_natCast, getD_lt hi, wrap_succ hi hl]
      have g : (decide ((130048 : Int) = 130048) && decide (s.2.2.length ≤ 130048) && frOkT xs[i]) = true := by
        rw [hok _ (List.getElem_mem hi)]; simpa using h3
      refine (bif_true g _ _).trans ?_
      rw [List.drop_eq_getElem_cons hi]
      exact ih (i + 1) (spfrTE v xs[i] s) (by omega) (by omega) (spfrTE_le v _ h3)
    · refine (bif_false (by simp; omega) _ _).trans ?_
      rw [List.drop_of_length_le (by omega)]
      rfl
def bodyfrTopics (a0 : List tfrTopic.den) (a1 : Int) (a2 : Int) (a3 : Bool) (a4 : List Int) (a5 : Int) : Option iofrTopics.Res := bif decide (16 < (↑a0.length : Int)) then bif decide (a5 = 130048) && decide (a4.length ≤ 130048) then some (Out.ret ((), ((), a1, (spFail 9 (a2, a3, a4)).fst, (spFail 9 (a2, a3, a4)).snd.fst, ()), ((spFail 9 (a2, a3, a4)).snd.snd, 130048, ()), ((), ()), ())) else none else bif decide (a5 = 130048) && decide (a4.length ≤ 130048) then (FfrTopics_5 ((a0, ((↑a0.length : Int), (0, ()))), ((a1, ((spPutE (IntKind.i32.wrap (↑a0.length : Int)) 4 (a2, a3, a4)).fst, ((spPutE (IntKind.i32.wrap (↑a0.length : Int)) 4 (a2, a3, a4)).snd.fst, ()))), (((spPutE (IntKind.i32.wrap (↑a0.length : Int)) 4 (a2, a3, a4)).snd.snd, (130048, ())), ((), ()))))).run fun y => match y with | .ret ((), ((), (x27, x28, x29, ()), (x30, x31, ()), (), ())) => (some (Out.ret ((), ((), x27, x28, x29, ()), (x30, x31, ()), ((), ()), ()))) else none
theorem runfrTopics (a0 : List tfrTopic.den) (a1 : Int) (a2 : Int) (a3 : Bool) (a4 : List Int) (a5 : Int) : Io.run tt hdfrTopics dr lpfrTopics iofrTopics Go.Proofs.Tryz.f104 (((), a0, (), ()), ((), a1, a2, a3, ()), (a4, a5, ()), ((), ()), ()) = bodyfrTopics a0 a1 a2 a3 a4 a5 := by kernel_rfl
theorem okfrTopics : HcOk prog 104 (ioHd iofrTopics FfrTopics) := by
  refine fn_sound (n := 400) hm (cs := csfrTopics) (.cons okeFail (.cons okeI32 (.cons okfrTopic .nil))) (lp := lpfrTopics) (fn := Go.Proofs.Tryz.f104) (by kernel_rfl) (by kernel_rfl) (by kernel_rfl) iofrTopics (.step (h0 := loHd lofrTopics_5 FfrTopics_5) (by kernel_rfl) (loop_sound (n := 400) hm (cs := csfrTopics) (.cons okeFail (.cons okeI32 (.cons okfrTopic .nil))) (lp := lpfrTopics) (fn := Go.Proofs.Tryz.f104) (.done (by kernel_rfl)) lofrTopics_5 FfrTopics_5 ?_) (.done (by kernel_rfl))) FfrTopics ?_
  · rintro ⟨⟨(xs : List tfrTopic.den), (n : Int), (i : Int), ⟨⟩⟩, ⟨⟨(v : Int), (e : Int), (f : Bool), ⟨⟩⟩, ⟨(b : List Int), (m : Int), ⟨⟩⟩, ⟨⟨⟩, ⟨⟩⟩⟩⟩ y hw hy
    obtain ⟨hg, hy⟩ := Tr.guard hy
    simp only [Bool.and_eq_true, decide_eq_true_eq] at hg
    obtain ⟨rfl, rfl, rfl, h4, h5⟩ := hg
    have h5 : ∀ x ∈ xs, frOkT x = true := List.all_eq_true.1 h5
    have h4 : b.length ≤ 130048 := h4
    have hl : xs.length ≤ maxLen := hw.1.1.1
    refine ⟨xs.length + 1, (loopfrTopics v hl h5 (xs.length + 1) 0 (e, (f, b)) (by omega) (by omega) h4).trans ?_⟩
    rw [← hy]; rfl
  · rintro ⟨⟨⟨⟩, (xs : List tfrTopic.den), ⟨⟩, ⟨⟩⟩, ⟨⟨⟩, (v : Int), (e : Int), (f : Bool), ⟨⟩⟩, ⟨(b : List Int), (m : Int), ⟨⟩⟩, ⟨⟨⟩, ⟨⟩⟩, ⟨⟩⟩ out hw ho
    obtain ⟨hg, ho⟩ := Tr.guard ho
    obtain ⟨hg, h5⟩ := Bool.and_eq_true_iff.1 hg
    have h5 : spfrOkTs xs = true := h5
    obtain ⟨rfl, hb⟩ := encOk_iff (v := v) (e := e) (f := f) hg
    cases ho
    refine (runfrTopics xs v e f b 130048).trans ?_
    unfold bodyfrTopics
    have g : (decide ((130048 : Int) = 130048) && decide (b.length ≤ 130048)) = true := by simpa using hb
    show _ = some (Out.ret ((), encOutC v (spItems (spfrTE v) xs (e, f, b))))
    unfold spItems
    by_cases h : 16 < (xs.length : Int)
    · rw [if_pos h]
      refine (bif_true (decide_eq_true h) _ _).trans ?_
      exact bif_true g _ _
    · rw [if_neg h]
      refine (bif_false (decide_eq_false h) _ _).trans ?_
      refine (bif_true g _ _).trans ?_
      have hw32 : IntKind.i32.wrap (xs.length : Int) = xs.length := wrap_id (by simp [inR, IntKind.min, IntKind.max, IntKind.signed, IntKind.bits]; omega)
      rw [hw32]
      have c1 : (decide ((0 : Int) = 0) && (decide ((xs.length : Int) = (xs.length : Int)) && (decide ((130048 : Int) = 130048) && (decide ((spPutE xs.length 4 (e, f, b)).2.2.length ≤ 130048) && spfrOkTs xs)))) = true := by
        rw [h5]; simpa using spPutE_le (s := (e, f, b)) _ 4 hb
      have e1 : FfrTopics_5 ((xs, ((xs.length : Int), (0, ()))), ((v, ((spPutE xs.length 4 (e, f, b)).1, ((spPutE xs.length 4 (e, f, b)).2.1, ()))), (((spPutE xs.length 4 (e, f, b)).2.2, (130048, ())), ((), ())))) =
          .ite true (.ret (.ret ((), ((), encOutB v (xs.foldl (fun s x => spfrTE v x s) (spPutE xs.length 4 (e, f, b))))))) .no := congrArg (fun c => Tr.ite c _ _) c1
      rw [e1]
      rfl
def spfrLP (v : Int) (p : tfrPart.den) (s : EnS) : EnS := spLacks v (p.2.2.2.2.1 == 0) 3 3 (spLacks v (p.2.2.2.1 == 0) 2 3 (s))
def spfrLPs (v : Int) (ps : List tfrPart.den) (s : EnS) : EnS := ps.foldl (fun s p => spfrLP v p s) s
def spfrLR (v : Int) (ts : List tfrTopic.den) (s : EnS) : EnS := ts.foldl (fun s t => spfrLPs v t.2.1 s) s
def spfrE (v : Int) (m : tfrMsg.den) : EnS := spfrTsE v m.2.1 (spHasE v 1 3 m.1 4 (spfrLR v m.2.1 (spLacks v (m.1 == 0) 1 3 (spNewE v, (false, ([] : List Int))))))
abbrev iofrMsg : Io := ⟨[dI, .dat tfrMsg true false], [], [], [dO, dI], none⟩
def FfrMsg (d : iofrMsg.In) : Tr iofrMsg.Res := .ite (spfrOkTs d.1.2.1.2.1) (.ret (.ret ((spDoneO (spfrE d.1.1 d.1.2.1), (spDoneE (spfrE d.1.1 d.1.2.1), ())), ()))) .no
abbrev csfrMsg : List (Nat × Hc) := [(54, ioHd ioeNew FeNew), (55, ioHd ioeLacks FeLacks), (57, ioHd ioeHas FeHas), (56, ioHd ioeI32 FeI32), (104, ioHd iofrTopics FfrTopics), (65, ioHd ioeDone FeDone)]
def hdfrMsg : Hd := hdT csfrMsg
abbrev lofrMsg_8 : Lo := ⟨⟨[.any, .any, .any, .one (.ptr 3 0), .any, .any, .one (.ptr 6 0), .any, .any, .any, .any, .any, .any, .any, .any, .any, .any, .any, .any, .one (.hol (.sl 169 tfrTopic)), .one (.hol (.int IntKind.i64)), .one (.hol (.int IntKind.i64)), .any, .any, .any, .any, .one (.hol (.sl 173 tfrPart)), .one (.hol (.int IntKind.i64)), .one (.hol (.int IntKind.i64)), .any, .any, .any, .any, .any, .any, .any, .any, .any, .any, .any, .any, .any, .any, .any, .any, .any, .any, .any, .any, .any, .any, .any, .any, .any, .any, .any, .any, .any, .any], [none, none, none, some [.hol (.int IntKind.i32), .hol (.sl 169 tfrTopic)], none, none, some [.ptr 12 0], none, none, none, none, none, some [.ptr 13 0, .hol (.int IntKind.i64), .hol (.int IntKind.i64), .hol .bool], some [.onl 5 (Ty.int IntKind.u8) 6658, .hol (.int IntKind.i64)]]⟩, [(.exit 2, ⟨[.any, .any, .any, .one (.ptr 3 0), .any, .any, .one (.ptr 6 0), .any, .any, .any, .any, .any, .any, .any, .any, .any, .any, .any, .any, .one (.hol (.sl 169 tfrTopic)), .one (.hol (.int IntKind.i64)), .one (.hol (.int IntKind.i64)), .any, .any, .any, .any, .any, .any, .any, .any, .any, .any, .any, .any, .any, .any, .any, .any, .any, .any, .any, .any, .any, .any, .any, .any, .any, .any, .any, .any, .any, .any, .any, .any, .any, .any, .any, .any, .any], [none, none, none, some [.hol (.int IntKind.i32), .hol (.sl 169 tfrTopic)], none, none, some [.ptr 12 0], none, none, none, none, none, some [.ptr 13 0, .hol (.int IntKind.i64), .hol (.int IntKind.i64), .hol .bool], some [.onl 5 (Ty.int IntKind.u8) 6658, .hol (.int IntKind.i64)]]⟩)]⟩
-- FfrMsg_8 : lofrMsg_8.st.den → Tr (DenX lofrMsg_8.xs) | ((h13, (h14, (h15, (h16, (h17, (h18, ())))))), ((h19, (h20, ())), ((), ((h21, (h22, (h23, ()))), ((h24, (h25, ())), ())))))
abbrev lofrMsg_5 : Lo := ⟨⟨[.any, .any, .any, .one (.ptr 3 0), .any, .any, .one (.ptr 6 0), .any, .any, .any, .any, .any, .any, .any, .any, .any, .any, .any, .any, .one (.hol (.sl 169 tfrTopic)), .one (.hol (.int IntKind.i64)), .one (.hol (.int IntKind.i64)), .any, .any, .any, .any, .any, .any, .any, .any, .any, .any, .any, .any, .any, .any, .any, .any, .any, .any, .any, .any, .any, .any, .any, .any, .any, .any, .any, .any, .any, .any, .any, .any, .any, .any, .any, .any, .any], [none, none, none, some [.hol (.int IntKind.i32), .hol (.sl 169 tfrTopic)], none, none, some [.ptr 12 0], none, none, none, none, none, some [.ptr 13 0, .hol (.int IntKind.i64), .hol (.int IntKind.i64), .hol .bool], some [.onl 5 (Ty.int IntKind.u8) 6658, .hol (.int IntKind.i64)]]⟩, [(.exit 0, ⟨[.any, .any, .any, .one (.ptr 3 0), .any, .any, .one (.ptr 6 0), .any, .any, .any, .any, .any, .any, .any, .any, .any, .any, .any, .any, .any, .any, .any, .any, .any, .any, .any, .any, .any, .any, .any, .any, .any, .any, .any, .any, .any, .any, .any, .any, .any, .any, .any, .any, .any, .any, .any, .any, .any, .any, .any, .any, .any, .any, .any, .any, .any, .any, .any, .any], [none, none, none, some [.hol (.int IntKind.i32), .hol (.sl 169 tfrTopic)], none, none, some [.ptr 12 0], none, none, none, none, none, some [.ptr 13 0, .hol (.int IntKind.i64), .hol (.int IntKind.i64), .hol .bool], some [.onl 5 (Ty.int IntKind.u8) 6658, .hol (.int IntKind.i64)]]⟩)]⟩
-- FfrMsg_5 : lofrMsg_5.st.den → Tr (DenX lofrMsg_5.xs) | ((h3, (h4, (h5, ()))), ((h6, (h7, ())), ((), ((h8, (h9, (h10, ()))), ((h11, (h12, ())), ())))))
abbrev outBfr (th' : Int) (ts' : List tfrTopic.den) (v : Int) (s : EnS) : (Int × (List tfrTopic.den × Unit)) × (Unit × ((Int × (Int × (Bool × Unit))) × ((List Int × (Int × Unit)) × Unit))) := ((th', (ts', ())), ((), ((v, (s.1, (s.2.1, ()))), ((s.2.2, (130048, ())), ()))))
def FfrMsg_8 (d : lofrMsg_8.st.den) : Tr (DenX lofrMsg_8.xs) :=
  .ite (decide (d.1.2.2.2.2.2.1 = 0) && (decide (d.1.2.2.2.2.1 = (d.1.2.2.2.1.length : Int)) && (decide (d.2.2.2.2.1.2.1 = 130048) && decide (d.2.2.2.2.1.1.length ≤ 130048)))) (.ret (.ret ((), ((d.1.1, (d.1.2.1, (d.1.2.2.1, ()))), outBfr d.2.1.1 d.2.1.2.1 d.2.2.2.1.1 (spfrLPs d.2.2.2.1.1 d.1.2.2.2.1 (d.2.2.2.1.2.1, (d.2.2.2.1.2.2.1, d.2.2.2.2.1.1))))))) .no
def FfrMsg_5 (d : lofrMsg_5.st.den) : Tr (DenX lofrMsg_5.xs) :=
  .ite (decide (d.1.2.2.1 = 0) && (decide (d.1.2.1 = (d.1.1.length : Int)) && (decide (d.2.2.2.2.1.2.1 = 130048) && decide (d.2.2.2.2.1.1.length ≤ 130048)))) (.ret (.ret ((), ((), outBfr d.2.1.1 d.2.1.2.1 d.2.2.2.1.1 (spfrLR d.2.2.2.1.1 d.1.1 (d.2.2.2.1.2.1, (d.2.2.2.1.2.2.1, d.2.2.2.2.1.1))))))) .no
def lpfrMsg : Lp := lpT [(5, loHd lofrMsg_5 FfrMsg_5), (8, loHd lofrMsg_8 FfrMsg_8)]
def stepfrMsg_8 {R : Type} (h13 : List tfrTopic.den) (h14 : Int) (h15 : Int) (h16 : List tfrPart.den) (h17 : Int) (h18 : Int) (h19 : Int) (h20 : List tfrTopic.den) (h21 : Int) (h22 : Int) (h23 : Bool) (h24 : List Int) (h25 : Int) (next : List tfrTopic.den → Int → Int → List tfrPart.den → Int → Int → Int → List tfrTopic.den → Int → Int → Bool → List Int → Int → Option R) (out : DenX lofrMsg_8.xs → Option R) : Option R := bif decide (h18 < h17) then bif decide (0 ≤ h18) && decide (h18 < (↑h16.length : Int)) then bif decide (h25 = 130048) && decide (h24.length ≤ 130048) then bif decide (130048 = 130048) && decide ((spLacks h21 ((h16.getD h18.toNat (0, 0, 0, 0, 0, (false, [], ()), ())).snd.snd.snd.fst == 0) 2 3 (h22, h23, h24)).snd.snd.length ≤ 130048) then next (h13) (h14) (h15) (h16) (h17) (IntKind.i64.wrap (h18 + 1)) (h19) (h20) (h21) ((spLacks h21 ((h16.getD h18.toNat (0, 0, 0, 0, 0, (false, [], ()), ())).snd.snd.snd.snd.fst == 0) 3 3 (spLacks h21 ((h16.getD h18.toNat (0, 0, 0, 0, 0, (false, [], ()), ())).snd.snd.snd.fst == 0) 2 3 (h22, h23, h24))).fst) ((spLacks h21 ((h16.getD h18.toNat (0, 0, 0, 0, 0, (false, [], ()), ())).snd.snd.snd.snd.fst == 0) 3 3 (spLacks h21 ((h16.getD h18.toNat (0, 0, 0, 0, 0, (false, [], ()), ())).snd.snd.snd.fst == 0) 2 3 (h22, h23, h24))).snd.fst) ((spLacks h21 ((h16.getD h18.toNat (0, 0, 0, 0, 0, (false, [], ()), ())).snd.snd.snd.snd.fst == 0) 3 3 (spLacks h21 ((h16.getD h18.toNat (0, 0, 0, 0, 0, (false, [], ()), ())).snd.snd.snd.fst == 0) 2 3 (h22, h23, h24))).snd.snd) (130048) else none else none else none else out (.ret ((), ((h13, (h14, (h15, ()))), ((h19, (h20, ())), ((), ((h21, (h22, (h23, ()))), ((h24, (h25, ())), ())))))))
def itfrMsg_8 (n : Nat) (h13 : List tfrTopic.den) (h14 : Int) (h15 : Int) (h16 : List tfrPart.den) (h17 : Int) (h18 : Int) (h19 : Int) (h20 : List tfrTopic.den) (h21 : Int) (h22 : Int) (h23 : Bool) (h24 : List Int) (h25 : Int) : Option (DenX lofrMsg_8.xs) := lpN tt hdfrMsg dr lpfrMsg 0 Go.Proofs.Tryz.f37 (subL Go.Proofs.Tryz.f37 (topL Go.Proofs.Tryz.f37 0) 0) n (lofrMsg_8.st.mk' ((h13, (h14, (h15, (h16, (h17, (h18, ())))))), ((h19, (h20, ())), ((), ((h21, (h22, (h23, ()))), ((h24, (h25, ())), ())))))) (decX lofrMsg_8.xs)
theorem slfrMsg_8 (n : Nat) (h13 : List tfrTopic.den) (h14 : Int) (h15 : Int) (h16 : List tfrPart.den) (h17 : Int) (h18 : Int) (h19 : Int) (h20 : List tfrTopic.den) (h21 : Int) (h22 : Int) (h23 : Bool) (h24 : List Int) (h25 : Int) : itfrMsg_8 (n + 1) h13 h14 h15 h16 h17 h18 h19 h20 h21 h22 h23 h24 h25 = stepfrMsg_8 h13 h14 h15 h16 h17 h18 h19 h20 h21 h22 h23 h24 h25 (itfrMsg_8 n) some := by kernel_rfl
def stepfrMsg_5 {R : Type} (h3 : List tfrTopic.den) (h4 : Int) (h5 : Int) (h6 : Int) (h7 : List tfrTopic.den) (h8 : Int) (h9 : Int) (h10 : Bool) (h11 : List Int) (h12 : Int) (next : List tfrTopic.den → Int → Int → Int → List tfrTopic.den → Int → Int → Bool → List Int → Int → Option R) (out : DenX lofrMsg_5.xs → Option R) : Option R := bif decide (h5 < h4) then bif decide (0 ≤ h5) && decide (h5 < (↑h3.length : Int)) then (FfrMsg_8 ((h3, (h4, (h5, ((h3.getD h5.toNat ([], [], ())).snd.fst, ((↑(List.length (h3.getD h5.toNat ([], [], ())).snd.fst) : Int), (0, ())))))), ((h6, (h7, ())), ((), ((h8, (h9, (h10, ()))), ((h11, (h12, ())), ())))))).run fun y => match y with | .ret ((), ((x49, x50, x51, ()), (x52, x53, ()), (), (x54, x55, x56, ()), (x57, x58, ()), ())) => (next (x49) (x50) (IntKind.i64.wrap (x51 + 1)) (x52) (x53) (x54) (x55) (x56) (x57) (x58)) else none else out (.ret ((), ((), ((h6, (h7, ())), ((), ((h8, (h9, (h10, ()))), ((h11, (h12, ())), ())))))))
def itfrMsg_5 (n : Nat) (h3 : List tfrTopic.den) (h4 : Int) (h5 : Int) (h6 : Int) (h7 : List tfrTopic.den) (h8 : Int) (h9 : Int) (h10 : Bool) (h11 : List Int) (h12 : Int) : Option (DenX lofrMsg_5.xs) := lpN tt hdfrMsg dr lpfrMsg 0 Go.Proofs.Tryz.f37 (topL Go.Proofs.Tryz.f37 0) n (lofrMsg_5.st.mk' ((h3, (h4, (h5, ()))), ((h6, (h7, ())), ((), ((h8, (h9, (h10, ()))), ((h11, (h12, ())), ())))))) (decX lofrMsg_5.xs)
theorem slfrMsg_5 (n : Nat) (h3 : List tfrTopic.den) (h4 : Int) (h5 : Int) (h6 : Int) (h7 : List tfrTopic.den) (h8 : Int) (h9 : Int) (h10 : Bool) (h11 : List Int) (h12 : Int) : itfrMsg_5 (n + 1) h3 h4 h5 h6 h7 h8 h9 h10 h11 h12 = stepfrMsg_5 h3 h4 h5 h6 h7 h8 h9 h10 h11 h12 (itfrMsg_5 n) some := by kernel_rfl
theorem spfrLP_le {s : EnS} (v : Int) (p : tfrPart.den) (h : s.2.2.length ≤ 130048) : (spfrLP v p s).2.2.length ≤ 130048 := spLacks_le _ _ _ _ (spLacks_le _ _ _ _ h)
theorem spfrLPs_le {s : EnS} (v : Int) (ps : List tfrPart.den) (h : s.2.2.length ≤ 130048) : (spfrLPs v ps s).2.2.length ≤ 130048 := foldl_le (fun x s => spfrLP_le v x) ps s h
theorem spfrLR_le {s : EnS} (v : Int) (ts : List tfrTopic.den) (h : s.2.2.length ≤ 130048) : (spfrLR v ts s).2.2.length ≤ 130048 := foldl_le (one := fun (t : tfrTopic.den) (s : EnS) => spfrLPs v t.2.1 s) (fun x s h => spfrLPs_le v x.2.1 h) ts s h
theorem loopfrMsg_8 (us : List tfrTopic.den) (n i : Int) (th' : Int) (ts' : List tfrTopic.den) (v : Int) {ps : List tfrPart.den} (hl : ps.length ≤ maxLen) : ∀ (k j : Nat) (s : EnS), ps.length < j + k → j ≤ ps.length → s.2.2.length ≤ 130048 →
    itfrMsg_8 k us n i ps (ps.length : Int) j th' ts' v s.1 s.2.1 s.2.2 130048 = some (.ret ((), ((us, (n, (i, ()))), outBfr th' ts' v ((ps.drop j).foldl (fun s p => spfrLP v p s) s)))) := by
  intro k
  have hg : ∀ s : EnS, s.2.2.length ≤ 130048 → (decide ((130048 : Int) = 130048) && decide (s.2.2.length ≤ 130048)) = true := fun s h => by simpa using h
  induction k with
  | zero => intro j s h; omega
  | succ k ih =>
    intro j s h1 h2 q0
    rw [slfrMsg_8]
    unfold stepfrMsg_8
    by_cases hi : j < ps.length
    · refine (bif_true (decide_eq_true (show (j : Int) < (ps.length : Int) by omega)) _ _).trans ?_
      refine (bif_true (by simpa using hi) _ _).trans ?_
      simp only [Int.toNat_natCast, getD_lt hi, wrap_succ hi hl]
      refine (bif_true (hg _ q0) _ _).trans ?_
      have q1 := spLacks_le (s := s) v (ps[j].2.2.2.1 == 0) 2 3 q0
      refine (bif_true (hg _ q1) _ _).trans ?_
      have q2 := spLacks_le (s := spLacks v (ps[j].2.2.2.1 == 0) 2 3 s) v (ps[j].2.2.2.2.1 == 0) 3 3 q1
      rw [List.drop_eq_getElem_cons hi]
      exact ih (j + 1) (spfrLP v ps[j] s) (by omega) (by omega) (spfrLP_le _ _ q0)
    · refine (bif_false (by simp; omega) _ _).trans ?_
      rw [List.drop_of_length_le (by omega)]
      rfl
theorem loopfrMsg_5 {us : List tfrTopic.den} (th' : Int) (ts' : List tfrTopic.den) (v : Int) (hl : us.length ≤ maxLen) : ∀ (k j : Nat) (s : EnS), us.length < j + k → j ≤ us.length → s.2.2.length ≤ 130048 →
    itfrMsg_5 k us (us.length : Int) j th' ts' v s.1 s.2.1 s.2.2 130048 = some (.ret ((), ((), outBfr th' ts' v ((us.drop j).foldl (fun s t => spfrLPs v t.2.1 s) s)))) := by
  intro k
  induction k with
  | zero => intro j s h; omega
  | succ k ih =>
    intro j s h1 h2 h3
    rw [slfrMsg_5]
    unfold stepfrMsg_5
    by_cases hi : j < us.length
    · refine (bif_true (decide_eq_true (show (j : Int) < (us.length : Int) by omega)) _ _).trans ?_
      refine (bif_true (by simpa using hi) _ _).trans ?_
      simp only [Int.toNat_natCast, getD_lt hi]
      have c1 : (decide ((0 : Int) = 0) && (decide ((us[j].2.1.length : Int) = (us[j].2.1.length : Int)) && (decide ((130048 : Int) = 130048) && decide (s.2.2.length ≤ 130048)))) = true := by simpa using h3
      have e1 : FfrMsg_8 ((us, ((us.length : Int), ((j : Int), (us[j].2.1, ((us[j].2.1.length : Int), (0, ())))))), ((th', (ts', ())), ((), ((v, (s.1, (s.2.1, ()))), ((s.2.2, (130048, ())), ()))))) =
          .ite true (.ret (.ret ((), ((us, ((us.length : Int), ((j : Int), ()))), outBfr th' ts' v (spfrLPs v us[j].2.1 s))))) .no := congrArg (fun c => Tr.ite c _ _) c1
      rw [e1]
      show itfrMsg_5 k us (us.length : Int) (IntKind.i64.wrap ((j : Int) + 1)) th' ts' v (spfrLPs v us[j].2.1 s).1 (spfrLPs v us[j].2.1 s).2.1 (spfrLPs v us[j].2.1 s).2.2 130048 = _
      rw [wrap_succ hi hl, List.drop_eq_getElem_cons hi]
      exact ih (j + 1) (spfrLPs v us[j].2.1 s) (by omega) (by omega) (spfrLPs_le _ _ h3)
    · refine (bif_false (by simp; omega) _ _).trans ?_
      rw [List.drop_of_length_le (by omega)]
      rfl
def bodyfrMsg (a0 : Int) (a1 : Int) (a2 : List tfrTopic.den) : Option iofrMsg.Res := (FfrMsg_5 ((a2, ((↑a2.length : Int), (0, ()))), ((a1, (a2, ())), ((), ((a0, ((spLacks a0 (a1 == 0) 1 3 (spNewE a0, false, [])).fst, ((spLacks a0 (a1 == 0) 1 3 (spNewE a0, false, [])).snd.fst, ()))), (((spLacks a0 (a1 == 0) 1 3 (spNewE a0, false, [])).snd.snd, (130048, ())), ())))))).run fun y => match y with | .ret ((), ((), (x76, x77, ()), (), (x78, x79, x80, ()), (x81, x82, ()), ())) => (bif decide (x82 = 130048) && decide (x81.length ≤ 130048) then bif decide (1 ≤ x78) && decide (x78 ≤ 3) then bif decide (130048 = 130048) && decide (x81.length ≤ 130048) then bif decide (130048 = 130048) && decide ((spPutE x76 4 (x79, x80, x81)).snd.snd.length ≤ 130048) && spfrOkTs x77 then bif decide (130048 = 130048) && decide ((spfrTsE x78 x77 (spPutE x76 4 (x79, x80, x81))).snd.snd.length ≤ 130048) then some (Out.ret ((spDoneO (spfrTsE x78 x77 (spPutE x76 4 (x79, x80, x81))), spDoneE (spfrTsE x78 x77 (spPutE x76 4 (x79, x80, x81))), ()), ())) else none else none else none else bif decide (130048 = 130048) && decide (x81.length ≤ 130048) && spfrOkTs x77 then bif decide (130048 = 130048) && decide ((spfrTsE x78 x77 (x79, x80, x81)).snd.snd.length ≤ 130048) then some (Out.ret ((spDoneO (spfrTsE x78 x77 (x79, x80, x81)), spDoneE (spfrTsE x78 x77 (x79, x80, x81)), ()), ())) else none else none else none)
theorem runfrMsg (a0 : Int) (a1 : Int) (a2 : List tfrTopic.den) : Io.run tt hdfrMsg dr lpfrMsg iofrMsg Go.Proofs.Tryz.f37 ((a0, (a1, a2, ()), ()), ()) = bodyfrMsg a0 a1 a2 := by kernel_rfl
theorem okfrMsg : HcOk prog 37 (ioHd iofrMsg FfrMsg) := by
  refine fn_sound (n := 400) hm (cs := csfrMsg) (.cons okeNew (.cons okeLacks (.cons okeHas (.cons okeI32 (.cons okfrTopics (.cons okeDone .nil)))))) (lp := lpfrMsg) (fn := Go.Proofs.Tryz.f37) (by kernel_rfl) (by kernel_rfl) (by kernel_rfl) iofrMsg (.step (h0 := loHd lofrMsg_5 FfrMsg_5) (by kernel_rfl) (loop_sound (n := 400) hm (cs := csfrMsg) (.cons okeNew (.cons okeLacks (.cons okeHas (.cons okeI32 (.cons okfrTopics (.cons okeDone .nil)))))) (lp := lpfrMsg) (fn := Go.Proofs.Tryz.f37) (.step (h0 := loHd lofrMsg_8 FfrMsg_8) (by kernel_rfl) (loop_sound (n := 400) hm (cs := csfrMsg) (.cons okeNew (.cons okeLacks (.cons okeHas (.cons okeI32 (.cons okfrTopics (.cons okeDone .nil)))))) (lp := lpfrMsg) (fn := Go.Proofs.Tryz.f37) (.done (by kernel_rfl)) lofrMsg_8 FfrMsg_8 ?_) (.done (by kernel_rfl))) lofrMsg_5 FfrMsg_5 ?_) (.done (by kernel_rfl))) FfrMsg ?_
  · rintro ⟨⟨(us : List tfrTopic.den), (n : Int), (i : Int), (ps : List tfrPart.den), (pn : Int), (pj : Int), ⟨⟩⟩, ⟨⟨(th' : Int), (ts' : List tfrTopic.den), ⟨⟩⟩, ⟨⟩, ⟨(v : Int), (e : Int), (f : Bool), ⟨⟩⟩, ⟨(b : List Int), (m : Int), ⟨⟩⟩, ⟨⟩⟩⟩ y hw hy
    obtain ⟨hg, hy⟩ := Tr.guard hy
    simp only [Bool.and_eq_true, decide_eq_true_eq] at hg
    obtain ⟨rfl, rfl, rfl, h4⟩ := hg
    have h4 : b.length ≤ 130048 := h4
    have hl : ps.length ≤ maxLen := hw.1.2.2.2.1.1
    refine ⟨ps.length + 1, (loopfrMsg_8 us n i th' ts' v hl (ps.length + 1) 0 (e, (f, b)) (by omega) (by omega) h4).trans ?_⟩
    rw [← hy]; rfl
  · rintro ⟨⟨(us : List tfrTopic.den), (n : Int), (i : Int), ⟨⟩⟩, ⟨⟨(th' : Int), (ts' : List tfrTopic.den), ⟨⟩⟩, ⟨⟩, ⟨(v : Int), (e : Int), (f : Bool), ⟨⟩⟩, ⟨(b : List Int), (m : Int), ⟨⟩⟩, ⟨⟩⟩⟩ y hw hy
    obtain ⟨hg, hy⟩ := Tr.guard hy
    simp only [Bool.and_eq_true, decide_eq_true_eq] at hg
    obtain ⟨rfl, rfl, rfl, h4⟩ := hg
    have h4 : b.length ≤ 130048 := h4
    have hl : us.length ≤ maxLen := hw.1.1.1
    refine ⟨us.length + 1, (loopfrMsg_5 th' ts' v hl (us.length + 1) 0 (e, (f, b)) (by omega) (by omega) h4).trans ?_⟩
    rw [← hy]; rfl
  · rintro ⟨⟨(v : Int), ⟨(th : Int), (ts : List tfrTopic.den), ⟨⟩⟩, ⟨⟩⟩, ⟨⟩⟩ out hw ho
    obtain ⟨hg, ho⟩ := Tr.guard ho
    have hok : spfrOkTs ts = true := hg
    clear hg
    cases ho
    refine (runfrMsg v th ts).trans ?_
    unfold bodyfrMsg
    have hg : ∀ s : EnS, s.2.2.length ≤ 130048 → (decide ((130048 : Int) = 130048) && decide (s.2.2.length ≤ 130048)) = true := fun s h => by simpa using h
    have q0 : (spNewE v, (false, ([] : List Int))).2.2.length ≤ 130048 := by simp
    have q1 := spLacks_le (s := (spNewE v, (false, ([] : List Int)))) v (th == 0) 1 3 q0
    have c1 : (decide ((0 : Int) = 0) && (decide ((ts.length : Int) = (ts.length : Int)) && (decide ((130048 : Int) = 130048) && decide ((spLacks v (th == 0) 1 3 (spNewE v, (false, ([] : List Int)))).2.2.length ≤ 130048)))) = true := by simpa using q1
    have e1 : FfrMsg_5 ((ts, ((ts.length : Int), (0, ()))), ((th, (ts, ())), ((), ((v, ((spLacks v (th == 0) 1 3 (spNewE v, (false, ([] : List Int)))).1, ((spLacks v (th == 0) 1 3 (spNewE v, (false, ([] : List Int)))).2.1, ()))), (((spLacks v (th == 0) 1 3 (spNewE v, (false, ([] : List Int)))).2.2, (130048, ())), ()))))) =
        .ite true (.ret (.ret ((), ((), outBfr th ts v (spfrLR v ts (spLacks v (th == 0) 1 3 (spNewE v, (false, ([] : List Int))))))))) .no := congrArg (fun c => Tr.ite c _ _) c1
    rw [e1]
    have r0 := spfrLR_le v ts q1
    refine (bif_true (hg _ r0) _ _).trans ?_
    by_cases h0_0 : 1 ≤ v ∧ v ≤ 3
    · refine (bif_true (by simpa using h0_0) _ _).trans ?_
      refine (bif_true (hg _ r0) _ _).trans ?_
      have l0_0 := spPutE_le th 4 r0
      refine (bif_true (by rw [hok, Bool.and_true]; exact hg _ l0_0) _ _).trans ?_
      have l1_1 := spItems_le (fun x s => spfrTE_le v x) ts l0_0
      refine (bif_true (hg _ l1_1) _ _).trans ?_
      simp only [spfrE, spHasE_in h0_0]
    · refine (bif_false (Bool.eq_false_iff.2 fun h' => h0_0 (by simpa using h')) _ _).trans ?_
      refine (bif_true (by rw [hok, Bool.and_true]; exact hg _ r0) _ _).trans ?_
      have l1_1 := spItems_le (fun x s => spfrTE_le v x) ts r0
      refine (bif_true (hg _ l1_1) _ _).trans ?_
      simp only [spfrE, spHasE_out h0_0]
end
end Go.Proofs.YtjpeefegeobgfaaGreat.Sym
