/- fetch.DecodeRep: what it reads. -/
import Derived.Test.YtjpeefegeobgfaaGreatQ7

namespace Go.Proofs.YtjpeefegeobgfaaGreat.Sym
open Go
set_option linter.unusedSimpArgs false
set_option linter.unusedVariables false
noncomputable section
@[irreducible] noncomputable def spfrPD (v : Int) (b : List Int) (s : DeS) : tfrPart.den × DeS :=
  (((spDn .i32 4 b s).1, ((spDn .i16 2 b (spDn .i32 4 b s).2).1, ((spDn .i64 8 b (spDn .i16 2 b (spDn .i32 4 b s).2).2).1, ((spDHasN .i64 8 v 2 3 b (spDn .i64 8 b (spDn .i16 2 b (spDn .i32 4 b s).2).2).2).1, ((spDHasN .i64 8 v 3 3 b (spDHasN .i64 8 v 2 3 b (spDn .i64 8 b (spDn .i16 2 b (spDn .i32 4 b s).2).2).2).2).1, ((spDBlob b (spDHasN .i64 8 v 3 3 b (spDHasN .i64 8 v 2 3 b (spDn .i64 8 b (spDn .i16 2 b (spDn .i32 4 b s).2).2).2).2).2).1, ())))))), (spDBlob b (spDHasN .i64 8 v 3 3 b (spDHasN .i64 8 v 2 3 b (spDn .i64 8 b (spDn .i16 2 b (spDn .i32 4 b s).2).2).2).2).2).2)
theorem spfrPD_ok {v : Int} {b : List Int} {s : DeS} (h : spDok b s.2 = true) : spDok b (spfrPD v b s).2.2 = true := by
  unfold spfrPD
  exact spDBlob_ok (spDHasN_ok (spDHasN_ok (spDn_ok _ _ (spDn_ok _ _ (spDn_ok _ _ (h))))))
abbrev iodfrPart : Io := ⟨[.ptr 0 0], oDec1, [], [.dat tfrPart true false], none⟩
def FdfrPart (d : iodfrPart.In) : Tr iodfrPart.Res := .ite (spDok d.2.2.2.1.1 d.2.2.2.1.2.1) (.ret (.ret (((spfrPD d.2.2.1.2.1 d.2.2.2.1.1 (decSt d.2.2)).1, ()), decOut1 d.2.2.1.2.1 d.2.2.2.1.1 (spfrPD d.2.2.1.2.1 d.2.2.2.1.1 (decSt d.2.2)).2))) .no
abbrev csdfrPart : List (Nat × Hc) := [(113, ioHd iodBlob FdBlob), (87, ioHd iodI16 FdI16), (81, ioHd iodI32 FdI32), (89, ioHd iodI64 FdI64), (80, ioHd iodHas FdHas)]
def hddfrPart : Hd := hdT csdfrPart
def lpdfrPart : Lp := lpT []
def bodydfrPart (a0 : Int) (a1 : Int) (a2 : List Int) (a3 : Int) : Option iodfrPart.Res := bif spDok a2 a3 then bif spDok a2 (spDn IntKind.i32 4 a2 (a1, a3)).snd.snd then bif spDok a2 (spDn IntKind.i16 2 a2 (spDn IntKind.i32 4 a2 (a1, a3)).snd).snd.snd then bif spDHas a0 2 3 (spDn IntKind.i64 8 a2 (spDn IntKind.i16 2 a2 (spDn IntKind.i32 4 a2 (a1, a3)).snd).snd).snd.fst then bif spDok a2 (spDn IntKind.i64 8 a2 (spDn IntKind.i16 2 a2 (spDn IntKind.i32 4 a2 (a1, a3)).snd).snd).snd.snd then bif spDHas a0 3 3 (spDn IntKind.i64 8 a2 (spDn IntKind.i64 8 a2 (spDn IntKind.i16 2 a2 (spDn IntKind.i32 4 a2 (a1, a3)).snd).snd).snd).snd.fst then bif spDok a2 (spDn IntKind.i64 8 a2 (spDn IntKind.i64 8 a2 (spDn IntKind.i16 2 a2 (spDn IntKind.i32 4 a2 (a1, a3)).snd).snd).snd).snd.snd then bif spDok a2 (spDn IntKind.i64 8 a2 (spDn IntKind.i64 8 a2 (spDn IntKind.i64 8 a2 (spDn IntKind.i16 2 a2 (spDn IntKind.i32 4 a2 (a1, a3)).snd).snd).snd).snd).snd.snd then some (Out.ret ((((spDn IntKind.i32 4 a2 (a1, a3)).fst, (spDn IntKind.i16 2 a2 (spDn IntKind.i32 4 a2 (a1, a3)).snd).fst, (spDn IntKind.i64 8 a2 (spDn IntKind.i16 2 a2 (spDn IntKind.i32 4 a2 (a1, a3)).snd).snd).fst, (spDn IntKind.i64 8 a2 (spDn IntKind.i64 8 a2 (spDn IntKind.i16 2 a2 (spDn IntKind.i32 4 a2 (a1, a3)).snd).snd).snd).fst, (spDn IntKind.i64 8 a2 (spDn IntKind.i64 8 a2 (spDn IntKind.i64 8 a2 (spDn IntKind.i16 2 a2 (spDn IntKind.i32 4 a2 (a1, a3)).snd).snd).snd).snd).fst, (spDBlob a2 (spDn IntKind.i64 8 a2 (spDn IntKind.i64 8 a2 (spDn IntKind.i64 8 a2 (spDn IntKind.i16 2 a2 (spDn IntKind.i32 4 a2 (a1, a3)).snd).snd).snd).snd).snd).fst, ()), ()), ((), ()), ((), a0, (spDBlob a2 (spDn IntKind.i64 8 a2 (spDn IntKind.i64 8 a2 (spDn IntKind.i64 8 a2 (spDn IntKind.i16 2 a2 (spDn IntKind.i32 4 a2 (a1, a3)).snd).snd).snd).snd).snd).snd.fst, ()), (a2, (spDBlob a2 (spDn IntKind.i64 8 a2 (spDn IntKind.i64 8 a2 (spDn IntKind.i64 8 a2 (spDn IntKind.i16 2 a2 (spDn IntKind.i32 4 a2 (a1, a3)).snd).snd).snd).snd).snd).snd.snd, ()), ())) else none else none else bif spDok a2 (spDn IntKind.i64 8 a2 (spDn IntKind.i64 8 a2 (spDn IntKind.i16 2 a2 (spDn IntKind.i32 4 a2 (a1, a3)).snd).snd).snd).snd.snd then some (Out.ret ((((spDn IntKind.i32 4 a2 (a1, a3)).fst, (spDn IntKind.i16 2 a2 (spDn IntKind.i32 4 a2 (a1, a3)).snd).fst, (spDn IntKind.i64 8 a2 (spDn IntKind.i16 2 a2 (spDn IntKind.i32 4 a2 (a1, a3)).snd).snd).fst, (spDn IntKind.i64 8 a2 (spDn IntKind.i64 8 a2 (spDn IntKind.i16 2 a2 (spDn IntKind.i32 4 a2 (a1, a3)).snd).snd).snd).fst, 0, (spDBlob a2 (spDn IntKind.i64 8 a2 (spDn IntKind.i64 8 a2 (spDn IntKind.i16 2 a2 (spDn IntKind.i32 4 a2 (a1, a3)).snd).snd).snd).snd).fst, ()), ()), ((), ()), ((), a0, (spDBlob a2 (spDn IntKind.i64 8 a2 (spDn IntKind.i64 8 a2 (spDn IntKind.i16 2 a2 (spDn IntKind.i32 4 a2 (a1, a3)).snd).snd).snd).snd).snd.fst, ()), (a2, (spDBlob a2 (spDn IntKind.i64 8 a2 (spDn IntKind.i64 8 a2 (spDn IntKind.i16 2 a2 (spDn IntKind.i32 4 a2 (a1, a3)).snd).snd).snd).snd).snd.snd, ()), ())) else none else none else bif spDHas a0 3 3 (spDn IntKind.i64 8 a2 (spDn IntKind.i16 2 a2 (spDn IntKind.i32 4 a2 (a1, a3)).snd).snd).snd.fst then bif spDok a2 (spDn IntKind.i64 8 a2 (spDn IntKind.i16 2 a2 (spDn IntKind.i32 4 a2 (a1, a3)).snd).snd).snd.snd then bif spDok a2 (spDn IntKind.i64 8 a2 (spDn IntKind.i64 8 a2 (spDn IntKind.i16 2 a2 (spDn IntKind.i32 4 a2 (a1, a3)).snd).snd).snd).snd.snd then some (Out.ret ((((spDn IntKind.i32 4 a2 (a1, a3)).fst, (spDn IntKind.i16 2 a2 (spDn IntKind.i32 4 a2 (a1, a3)).snd).fst, (spDn IntKind.i64 8 a2 (spDn IntKind.i16 2 a2 (spDn IntKind.i32 4 a2 (a1, a3)).snd).snd).fst, 0, (spDn IntKind.i64 8 a2 (spDn IntKind.i64 8 a2 (spDn IntKind.i16 2 a2 (spDn IntKind.i32 4 a2 (a1, a3)).snd).snd).snd).fst, (spDBlob a2 (spDn IntKind.i64 8 a2 (spDn IntKind.i64 8 a2 (spDn IntKind.i16 2 a2 (spDn IntKind.i32 4 a2 (a1, a3)).snd).snd).snd).snd).fst, ()), ()), ((), ()), ((), a0, (spDBlob a2 (spDn IntKind.i64 8 a2 (spDn IntKind.i64 8 a2 (spDn IntKind.i16 2 a2 (spDn IntKind.i32 4 a2 (a1, a3)).snd).snd).snd).snd).snd.fst, ()), (a2, (spDBlob a2 (spDn IntKind.i64 8 a2 (spDn IntKind.i64 8 a2 (spDn IntKind.i16 2 a2 (spDn IntKind.i32 4 a2 (a1, a3)).snd).snd).snd).snd).snd.snd, ()), ())) else none else none else bif spDok a2 (spDn IntKind.i64 8 a2 (spDn IntKind.i16 2 a2 (spDn IntKind.i32 4 a2 (a1, a3)).snd).snd).snd.snd then some (Out.ret ((((spDn IntKind.i32 4 a2 (a1, a3)).fst, (spDn IntKind.i16 2 a2 (spDn IntKind.i32 4 a2 (a1, a3)).snd).fst, (spDn IntKind.i64 8 a2 (spDn IntKind.i16 2 a2 (spDn IntKind.i32 4 a2 (a1, a3)).snd).snd).fst, 0, 0, (spDBlob a2 (spDn IntKind.i64 8 a2 (spDn IntKind.i16 2 a2 (spDn IntKind.i32 4 a2 (a1, a3)).snd).snd).snd).fst, ()), ()), ((), ()), ((), a0, (spDBlob a2 (spDn IntKind.i64 8 a2 (spDn IntKind.i16 2 a2 (spDn IntKind.i32 4 a2 (a1, a3)).snd).snd).snd).snd.fst, ()), (a2, (spDBlob a2 (spDn IntKind.i64 8 a2 (spDn IntKind.i16 2 a2 (spDn IntKind.i32 4 a2 (a1, a3)).snd).snd).snd).snd.snd, ()), ())) else none else none else none else none
theorem rundfrPart (a0 : Int) (a1 : Int) (a2 : List Int) (a3 : Int) : Io.run tt hddfrPart dr lpdfrPart iodfrPart Go.Proofs.Tryz.f112 (((), ()), ((), ()), ((), a0, a1, ()), (a2, a3, ()), ()) = bodydfrPart a0 a1 a2 a3 := by kernel_rfl
theorem okdfrPart : HcOk prog 112 (ioHd iodfrPart FdfrPart) := by
  refine fn_sound (n := 400) hm (cs := csdfrPart) (.cons okdBlob (.cons okdI16 (.cons okdI32 (.cons okdI64 (.cons okdHas .nil))))) (lp := lpdfrPart) (fn := Go.Proofs.Tryz.f112) (by kernel_rfl) (by kernel_rfl) (by kernel_rfl) iodfrPart (.done (by kernel_rfl)) FdfrPart ?_
  rintro ⟨⟨⟨⟩, ⟨⟩⟩, ⟨⟨⟩, ⟨⟩⟩, ⟨⟨⟩, (v : Int), (e : Int), ⟨⟩⟩, ⟨(b : List Int), (p : Int), ⟨⟩⟩, ⟨⟩⟩ out hw ho
  obtain ⟨hg, ho⟩ := Tr.guard ho
  have hg : spDok b p = true := hg
  cases ho
  refine (rundfrPart v e b p).trans ?_
  unfold bodydfrPart
  show _ = some (Out.ret (((spfrPD v b (e, p)).1, ()), decOut1 v b (spfrPD v b (e, p)).2))
  unfold spfrPD
  have hg : spDok b ((e, p) : DeS).2 = true := hg
  refine (bif_true hg _ _).trans ?_
  have g0 : spDok b (spDn .i32 4 b ((e, p) : DeS)).2.2 = true := spDn_ok .i32 4 (s := ((e, p) : DeS)) hg
  refine (bif_true g0 _ _).trans ?_
  have g1 : spDok b (spDn .i16 2 b (spDn .i32 4 b ((e, p) : DeS)).2).2.2 = true := spDn_ok .i16 2 (s := (spDn .i32 4 b ((e, p) : DeS)).2) g0
  refine (bif_true g1 _ _).trans ?_
  have g2 : spDok b (spDn .i64 8 b (spDn .i16 2 b (spDn .i32 4 b ((e, p) : DeS)).2).2).2.2 = true := spDn_ok .i64 8 (s := (spDn .i16 2 b (spDn .i32 4 b ((e, p) : DeS)).2).2) g1
  show (bif spDHas v 2 3 (spDn .i64 8 b (spDn .i16 2 b (spDn .i32 4 b ((e, p) : DeS)).2).2).2.1 then _ else _) = _
  cases h3 : spDHas v 2 3 (spDn .i64 8 b (spDn .i16 2 b (spDn .i32 4 b ((e, p) : DeS)).2).2).2.1
  · have e3 : spDHasN .i64 8 v 2 3 b (spDn .i64 8 b (spDn .i16 2 b (spDn .i32 4 b ((e, p) : DeS)).2).2).2 = (0, (spDn .i64 8 b (spDn .i16 2 b (spDn .i32 4 b ((e, p) : DeS)).2).2).2) := by unfold spDHasN; rw [if_neg (by rw [h3]; decide)]
    rw [e3]
    show (bif spDHas v 3 3 (spDn .i64 8 b (spDn .i16 2 b (spDn .i32 4 b ((e, p) : DeS)).2).2).2.1 then _ else _) = _
    cases hf4 : spDHas v 3 3 (spDn .i64 8 b (spDn .i16 2 b (spDn .i32 4 b ((e, p) : DeS)).2).2).2.1
    · have ef4 : spDHasN .i64 8 v 3 3 b (spDn .i64 8 b (spDn .i16 2 b (spDn .i32 4 b ((e, p) : DeS)).2).2).2 = (0, (spDn .i64 8 b (spDn .i16 2 b (spDn .i32 4 b ((e, p) : DeS)).2).2).2) := by unfold spDHasN; rw [if_neg (by rw [hf4]; decide)]
      rw [ef4]
      refine (bif_true g2 _ _).trans ?_
      have gff5 : spDok b (spDBlob b (spDn .i64 8 b (spDn .i16 2 b (spDn .i32 4 b ((e, p) : DeS)).2).2).2).2.2 = true := spDBlob_ok (s := (spDn .i64 8 b (spDn .i16 2 b (spDn .i32 4 b ((e, p) : DeS)).2).2).2) g2
      rfl
    · have ef4 : spDHasN .i64 8 v 3 3 b (spDn .i64 8 b (spDn .i16 2 b (spDn .i32 4 b ((e, p) : DeS)).2).2).2 = spDn .i64 8 b (spDn .i64 8 b (spDn .i16 2 b (spDn .i32 4 b ((e, p) : DeS)).2).2).2 := by unfold spDHasN; rw [if_pos hf4]
      rw [ef4]
      refine (bif_true g2 _ _).trans ?_
      have gf4 : spDok b (spDn .i64 8 b (spDn .i64 8 b (spDn .i16 2 b (spDn .i32 4 b ((e, p) : DeS)).2).2).2).2.2 = true := spDn_ok .i64 8 (s := (spDn .i64 8 b (spDn .i16 2 b (spDn .i32 4 b ((e, p) : DeS)).2).2).2) g2
      refine (bif_true gf4 _ _).trans ?_
      have gft5 : spDok b (spDBlob b (spDn .i64 8 b (spDn .i64 8 b (spDn .i16 2 b (spDn .i32 4 b ((e, p) : DeS)).2).2).2).2).2.2 = true := spDBlob_ok (s := (spDn .i64 8 b (spDn .i64 8 b (spDn .i16 2 b (spDn .i32 4 b ((e, p) : DeS)).2).2).2).2) gf4
      rfl
  · have e3 : spDHasN .i64 8 v 2 3 b (spDn .i64 8 b (spDn .i16 2 b (spDn .i32 4 b ((e, p) : DeS)).2).2).2 = spDn .i64 8 b (spDn .i64 8 b (spDn .i16 2 b (spDn .i32 4 b ((e, p) : DeS)).2).2).2 := by unfold spDHasN; rw [if_pos h3]
    rw [e3]
    refine (bif_true g2 _ _).trans ?_
    have g3 : spDok b (spDn .i64 8 b (spDn .i64 8 b (spDn .i16 2 b (spDn .i32 4 b ((e, p) : DeS)).2).2).2).2.2 = true := spDn_ok .i64 8 (s := (spDn .i64 8 b (spDn .i16 2 b (spDn .i32 4 b ((e, p) : DeS)).2).2).2) g2
    show (bif spDHas v 3 3 (spDn .i64 8 b (spDn .i64 8 b (spDn .i16 2 b (spDn .i32 4 b ((e, p) : DeS)).2).2).2).2.1 then _ else _) = _
    cases ht4 : spDHas v 3 3 (spDn .i64 8 b (spDn .i64 8 b (spDn .i16 2 b (spDn .i32 4 b ((e, p) : DeS)).2).2).2).2.1
    · have et4 : spDHasN .i64 8 v 3 3 b (spDn .i64 8 b (spDn .i64 8 b (spDn .i16 2 b (spDn .i32 4 b ((e, p) : DeS)).2).2).2).2 = (0, (spDn .i64 8 b (spDn .i64 8 b (spDn .i16 2 b (spDn .i32 4 b ((e, p) : DeS)).2).2).2).2) := by unfold spDHasN; rw [if_neg (by rw [ht4]; decide)]
      rw [et4]
      refine (bif_true g3 _ _).trans ?_
      have gtf5 : spDok b (spDBlob b (spDn .i64 8 b (spDn .i64 8 b (spDn .i16 2 b (spDn .i32 4 b ((e, p) : DeS)).2).2).2).2).2.2 = true := spDBlob_ok (s := (spDn .i64 8 b (spDn .i64 8 b (spDn .i16 2 b (spDn .i32 4 b ((e, p) : DeS)).2).2).2).2) g3
      rfl
    · have et4 : spDHasN .i64 8 v 3 3 b (spDn .i64 8 b (spDn .i64 8 b (spDn .i16 2 b (spDn .i32 4 b ((e, p) : DeS)).2).2).2).2 = spDn .i64 8 b (spDn .i64 8 b (spDn .i64 8 b (spDn .i16 2 b (spDn .i32 4 b ((e, p) : DeS)).2).2).2).2 := by unfold spDHasN; rw [if_pos ht4]
      rw [et4]
      refine (bif_true g3 _ _).trans ?_
      have gt4 : spDok b (spDn .i64 8 b (spDn .i64 8 b (spDn .i64 8 b (spDn .i16 2 b (spDn .i32 4 b ((e, p) : DeS)).2).2).2).2).2.2 = true := spDn_ok .i64 8 (s := (spDn .i64 8 b (spDn .i64 8 b (spDn .i16 2 b (spDn .i32 4 b ((e, p) : DeS)).2).2).2).2) g3
      refine (bif_true gt4 _ _).trans ?_
      have gtt5 : spDok b (spDBlob b (spDn .i64 8 b (spDn .i64 8 b (spDn .i64 8 b (spDn .i16 2 b (spDn .i32 4 b ((e, p) : DeS)).2).2).2).2).2).2.2 = true := spDBlob_ok (s := (spDn .i64 8 b (spDn .i64 8 b (spDn .i64 8 b (spDn .i16 2 b (spDn .i32 4 b ((e, p) : DeS)).2).2).2).2).2) gt4
      rfl
@[irreducible] noncomputable def spfrPsD (v : Int) (b : List Int) (s : DeS) : List tfrPart.den × DeS := spList (spfrPD v b) b s
theorem spfrPsD_ok {v : Int} {b : List Int} {s : DeS} (h : spDok b s.2 = true) : spDok b (spfrPsD v b s).2.2 = true := by
  unfold spfrPsD
  exact spList_ok (fun s h => spfrPD_ok h) h
abbrev iodfrParts : Io := ⟨[.ptr 0 0, .fnc 112 false [2]], oDecC, [], [.dat (.sl 173 tfrPart) false false], none⟩
def FdfrParts (d : iodfrParts.In) : Tr iodfrParts.Res := .ite (spDok d.2.2.1.1 d.2.2.1.2.1) (.ret (.ret (((spfrPsD d.2.1.2.1 d.2.2.1.1 (decStC d.2)).1, ()), decOutC d.2.1.2.1 d.2.2.1.1 (spfrPsD d.2.1.2.1 d.2.2.1.1 (decStC d.2)).2))) .no
abbrev csdfrParts : List (Nat × Hc) := [(81, ioHd iodI32 FdI32), (112, ioHd iodfrPart FdfrPart)]
def hddfrParts : Hd := hdT csdfrParts
abbrev lodfrParts_10 : Lo := ⟨⟨[.one (.ptr 0 0), .one (.fnp 112 false [2]), .any, .any, .any, .one (.hol (.int IntKind.i32)), .one (.onl 173 tfrPart 19), .one (.hol (.int IntKind.i32)), .any, .any, .any, .any, .any, .any, .any, .any, .any, .any, .any, .any, .any, .any, .any, .any, .any, .any, .any, .any, .any, .any, .any, .any, .any, .any, .any, .any, .any, .any, .any, .any, .any, .any, .any, .any, .any, .any], [some [.ptr 1 0, .hol (.int IntKind.i64), .hol (.int IntKind.i64)], some [.hol (.sl 5 (Ty.int IntKind.u8)), .hol (.int IntKind.i64)], some [.ptr 0 0]]⟩, [(.exit 1, ⟨[.any, .any, .any, .any, .any, .any, .one (.onl 173 tfrPart 19), .any, .any, .any, .any, .any, .any, .any, .any, .any, .any, .any, .any, .any, .any, .any, .any, .any, .any, .any, .any, .any, .any, .any, .any, .any, .any, .any, .any, .any, .any, .any, .any, .any, .any, .any, .any, .any, .any, .any], [some [.ptr 1 0, .hol (.int IntKind.i64), .hol (.int IntKind.i64)], some [.hol (.sl 5 (Ty.int IntKind.u8)), .hol (.int IntKind.i64)], some [.ptr 0 0]]⟩)]⟩
-- FdfrParts_10 : lodfrParts_10.st.den → Tr (DenX lodfrParts_10.xs) | ((h4, (h5, (h6, ()))), ((h7, (h8, ())), ((h9, (h10, ())), ((), ()))))
def FdfrParts_10 (d : lodfrParts_10.st.den) : Tr (DenX lodfrParts_10.xs) :=
  .ite (decide (d.1.2.2.1 = 0) && (decide (d.1.2.1.length = 0) && (spDok d.2.2.1.1 d.2.2.1.2.1 && (decide (d.1.1 ≤ (16 : Int)) || decide (d.2.1.2.1 ≠ 0))))) (.ret (.ret ((), (((spRep (spfrPD d.2.1.1 d.2.2.1.1) d.1.1.toNat (d.2.1.2.1, d.2.2.1.2.1)).1, ()), decOutB d.2.1.1 d.2.2.1.1 (spRep (spfrPD d.2.1.1 d.2.2.1.1) d.1.1.toNat (d.2.1.2.1, d.2.2.1.2.1)).2)))) .no
def lpdfrParts : Lp := lpT [(10, loHd lodfrParts_10 FdfrParts_10)]
def stepdfrParts_10 {R : Type} (h4 : Int) (h5 : List tfrPart.den) (h6 : Int) (h7 : Int) (h8 : Int) (h9 : List Int) (h10 : Int) (next : Int → List tfrPart.den → Int → Int → Int → List Int → Int → Option R) (out : DenX lodfrParts_10.xs → Option R) : Option R := bif decide (h6 < h4) then bif h8 == 0 then bif spDok h9 h10 then bif decide (h5.length + 1 ≤ 4294967296) then next (h4) (h5 ++ [(spfrPD h7 h9 (h8, h10)).fst]) (IntKind.i32.wrap (h6 + 1)) (h7) ((spfrPD h7 h9 (h8, h10)).snd.fst) (h9) ((spfrPD h7 h9 (h8, h10)).snd.snd) else none else none else out (.ret ((), ((h5, ()), ((h7, (h8, ())), ((h9, (h10, ())), ((), ())))))) else out (.ret ((), ((h5, ()), ((h7, (h8, ())), ((h9, (h10, ())), ((), ()))))))
def itdfrParts_10 (n : Nat) (h4 : Int) (h5 : List tfrPart.den) (h6 : Int) (h7 : Int) (h8 : Int) (h9 : List Int) (h10 : Int) : Option (DenX lodfrParts_10.xs) := lpN tt hddfrParts dr lpdfrParts 3 Go.Proofs.Tryz.f111 (topL Go.Proofs.Tryz.f111 0) n (lodfrParts_10.st.mk' ((h4, (h5, (h6, ()))), ((h7, (h8, ())), ((h9, (h10, ())), ((), ()))))) (decX lodfrParts_10.xs)
theorem sldfrParts_10 (n : Nat) (h4 : Int) (h5 : List tfrPart.den) (h6 : Int) (h7 : Int) (h8 : Int) (h9 : List Int) (h10 : Int) : itdfrParts_10 (n + 1) h4 h5 h6 h7 h8 h9 h10 = stepdfrParts_10 h4 h5 h6 h7 h8 h9 h10 (itdfrParts_10 n) some := by kernel_rfl
theorem loopdfrParts (n v : Int) (b : List Int) : ∀ (k j : Nat) (xs : List tfrPart.den) (s : DeS), n.toNat < j + k → j ≤ n.toNat → xs.length = j → spDok b s.2 = true → (s.1 = 0 → n ≤ 16) →
    itdfrParts_10 k n xs j v s.1 b s.2 = some (.ret ((), ((xs ++ (spRep (spfrPD v b) (n.toNat - j) s).1, ()), decOutB v b (spRep (spfrPD v b) (n.toNat - j) s).2))) := by
  intro k
  induction k with
  | zero => intro j xs s h; omega
  | succ k ih =>
    intro j xs s h1 h2 h3 h4 h5
    rw [sldfrParts_10]
    unfold stepdfrParts_10
    by_cases hj : (j : Int) < n
    · refine (bif_true (by simpa using hj) _ _).trans ?_
      obtain ⟨m, hm⟩ : ∃ m, n.toNat - j = m + 1 := ⟨n.toNat - j - 1, by omega⟩
      rw [hm]
      by_cases he : s.1 = 0
      · refine (bif_true (by simpa using he) _ _).trans ?_
        have hn := h5 he
        refine (bif_true h4 _ _).trans ?_
        refine (bif_true (decide_eq_true (show xs.length + 1 ≤ 4294967296 by omega)) _ _).trans ?_
        have hw : IntKind.i32.wrap ((j : Int) + 1) = ((j + 1 : Nat) : Int) := wrap_id (by simp [inR, IntKind.min, IntKind.max, IntKind.signed, IntKind.bits]; omega)
        rw [hw]
        refine (ih (j + 1) (xs ++ [(spfrPD v b s).1]) (spfrPD v b s).2 (by omega) (by omega) (by simp [h3]) (spfrPD_ok h4) (fun _ => hn)).trans ?_
        rw [show n.toNat - (j + 1) = m by omega, spRep, if_pos he]
        simp
      · refine (bif_false (by simpa using he) _ _).trans ?_
        rw [spRep, if_neg he]
        simp
    · refine (bif_false (by simpa using hj) _ _).trans ?_
      rw [show n.toNat - j = 0 by omega, spRep]
      simp
def bodydfrParts (a0 : Int) (a1 : Int) (a2 : List Int) (a3 : Int) : Option iodfrParts.Res := bif spDok a2 a3 then bif (spDn IntKind.i32 4 a2 (a1, a3)).snd.fst != 0 then (FdfrParts_10 (((spDn IntKind.i32 4 a2 (a1, a3)).fst, ([], (0, ()))), ((a0, ((spDn IntKind.i32 4 a2 (a1, a3)).snd.fst, ())), ((a2, ((spDn IntKind.i32 4 a2 (a1, a3)).snd.snd, ())), ((), ()))))).run fun y => match y with | .ret ((), ((x28, ()), (x29, x30, ()), (x31, x32, ()), (), ())) => (some (Out.ret ((x28, ()), ((), x29, x30, ()), (x31, x32, ()), ((), ()), ()))) else bif decide ((spDn IntKind.i32 4 a2 (a1, a3)).fst < 0) then (FdfrParts_10 (((spDn IntKind.i32 4 a2 (a1, a3)).fst, ([], (0, ()))), ((a0, (5, ())), ((a2, ((spDn IntKind.i32 4 a2 (a1, a3)).snd.snd, ())), ((), ()))))).run fun y => match y with | .ret ((), ((x40, ()), (x41, x42, ()), (x43, x44, ()), (), ())) => (some (Out.ret ((x40, ()), ((), x41, x42, ()), (x43, x44, ()), ((), ()), ()))) else bif decide (16 < (spDn IntKind.i32 4 a2 (a1, a3)).fst) then (FdfrParts_10 (((spDn IntKind.i32 4 a2 (a1, a3)).fst, ([], (0, ()))), ((a0, (9, ())), ((a2, ((spDn IntKind.i32 4 a2 (a1, a3)).snd.snd, ())), ((), ()))))).run fun y => match y with | .ret ((), ((x52, ()), (x53, x54, ()), (x55, x56, ()), (), ())) => (some (Out.ret ((x52, ()), ((), x53, x54, ()), (x55, x56, ()), ((), ()), ()))) else (FdfrParts_10 (((spDn IntKind.i32 4 a2 (a1, a3)).fst, ([], (0, ()))), ((a0, ((spDn IntKind.i32 4 a2 (a1, a3)).snd.fst, ())), ((a2, ((spDn IntKind.i32 4 a2 (a1, a3)).snd.snd, ())), ((), ()))))).run fun y => match y with | .ret ((), ((x64, ()), (x65, x66, ()), (x67, x68, ()), (), ())) => (some (Out.ret ((x64, ()), ((), x65, x66, ()), (x67, x68, ()), ((), ()), ()))) else none
theorem rundfrParts (a0 : Int) (a1 : Int) (a2 : List Int) (a3 : Int) : Io.run tt hddfrParts dr lpdfrParts iodfrParts Go.Proofs.Tryz.f111 (((), (), ()), ((), a0, a1, ()), (a2, a3, ()), ((), ()), ()) = bodydfrParts a0 a1 a2 a3 := by kernel_rfl
theorem okdfrParts : HcOk prog 111 (ioHd iodfrParts FdfrParts) := by
  refine fn_sound (n := 400) hm (cs := csdfrParts) (.cons okdI32 (.cons okdfrPart .nil)) (lp := lpdfrParts) (fn := Go.Proofs.Tryz.f111) (by kernel_rfl) (by kernel_rfl) (by kernel_rfl) iodfrParts (.step (h0 := loHd lodfrParts_10 FdfrParts_10) (by kernel_rfl) (loop_sound (n := 400) hm (cs := csdfrParts) (.cons okdI32 (.cons okdfrPart .nil)) (lp := lpdfrParts) (fn := Go.Proofs.Tryz.f111) (.done (by kernel_rfl)) lodfrParts_10 FdfrParts_10 ?_) (.done (by kernel_rfl))) FdfrParts ?_
  · rintro ⟨⟨(n : Int), (xs : List tfrPart.den), (i : Int), ⟨⟩⟩, ⟨⟨(v : Int), (e : Int), ⟨⟩⟩, ⟨(b : List Int), (p : Int), ⟨⟩⟩, ⟨⟨⟩, ⟨⟩⟩⟩⟩ y hw hy
    obtain ⟨hg, hy⟩ := Tr.guard hy
    simp only [Bool.and_eq_true, decide_eq_true_eq, Bool.or_eq_true] at hg
    obtain ⟨h1, h2, h3, h4⟩ := hg
    have h1 : i = 0 := h1
    have h2 : xs = [] := List.eq_nil_of_length_eq_zero h2
    have h3 : spDok b p = true := h3
    have h4 : n ≤ 16 ∨ e ≠ 0 := h4
    subst h1
    subst h2
    refine ⟨n.toNat + 1, (loopdfrParts n v b (n.toNat + 1) 0 [] (e, p) (by omega) (by omega) rfl h3 (fun he => h4.resolve_right (fun h => h he))).trans ?_⟩
    rw [← hy]; rfl
  · rintro ⟨⟨⟨⟩, ⟨⟩, ⟨⟩⟩, ⟨⟨⟩, (v : Int), (e : Int), ⟨⟩⟩, ⟨(b : List Int), (p : Int), ⟨⟩⟩, ⟨⟨⟩, ⟨⟩⟩, ⟨⟩⟩ out hw ho
    obtain ⟨hg, ho⟩ := Tr.guard ho
    have hg : spDok b p = true := hg
    cases ho
    refine (rundfrParts v e b p).trans ?_
    unfold bodydfrParts
    show _ = some (Out.ret (((spfrPsD v b (e, p)).1, ()), decOutC v b (spfrPsD v b (e, p)).2))
    unfold spfrPsD spList
    refine (bif_true hg _ _).trans ?_
    have hr : spDok b (spDn .i32 4 b (e, p)).2.2 = true := spDn_ok .i32 4 (s := (e, p)) hg
    generalize spDn .i32 4 b (e, p) = r at hr ⊢
    obtain ⟨n, e1, q⟩ := r
    have hr : spDok b q = true := hr
    have key : ∀ e' : Int, (e' = 0 → n ≤ 16) → FdfrParts_10 ((n, ([], (0, ()))), ((v, (e', ())), ((b, (q, ())), ((), ())))) = .ite true (.ret (.ret ((), (((spRep (spfrPD v b) n.toNat (e', q)).1, ()), decOutB v b (spRep (spfrPD v b) n.toNat (e', q)).2)))) .no := by
      intro e' he
      refine congrArg (fun c => Tr.ite c _ _) ?_
      show (decide ((0 : Int) = 0) && (decide (([] : List tfrPart.den).length = 0) && (spDok b q && (decide (n ≤ 16) || decide (e' ≠ 0))))) = true
      rw [hr]
      by_cases h : e' = 0
      · simp [he h]
      · simp [h]
    unfold spLen
    show (bif e1 != 0 then _ else _) = _
    by_cases h1 : e1 = 0
    · refine (bif_false (by simpa using h1) _ _).trans ?_
      show (bif decide (n < 0) then _ else _) = _
      rw [if_pos h1]
      by_cases h2 : n < 0
      · refine (bif_true (by simpa using h2) _ _).trans ?_
        show (FdfrParts_10 ((n, ([], (0, ()))), ((v, (5, ())), ((b, (q, ())), ((), ()))))).run _ = _
        rw [key 5 (by omega), if_pos h2]
        rfl
      · refine (bif_false (by simpa using h2) _ _).trans ?_
        show (bif decide (16 < n) then _ else _) = _
        rw [if_neg h2]
        by_cases h3 : 16 < n
        · refine (bif_true (by simpa using h3) _ _).trans ?_
          show (FdfrParts_10 ((n, ([], (0, ()))), ((v, (9, ())), ((b, (q, ())), ((), ()))))).run _ = _
          rw [key 9 (by omega), if_pos h3]
          rfl
        · refine (bif_false (by simpa using h3) _ _).trans ?_
          show (FdfrParts_10 ((n, ([], (0, ()))), ((v, (e1, ())), ((b, (q, ())), ((), ()))))).run _ = _
          rw [key e1 (by omega), if_neg h3]
          rfl
    · refine (bif_true (by simpa using h1) _ _).trans ?_
      show (FdfrParts_10 ((n, ([], (0, ()))), ((v, (e1, ())), ((b, (q, ())), ((), ()))))).run _ = _
      rw [key e1 (fun h => absurd h h1), if_neg h1]
      rfl
@[irreducible] noncomputable def spfrTD (v : Int) (b : List Int) (s : DeS) : tfrTopic.den × DeS := (((spDStr b s).1, ((spfrPsD v b (spDStr b s).2).1, ())), (spfrPsD v b (spDStr b s).2).2)
theorem spfrTD_ok {v : Int} {b : List Int} {s : DeS} (h : spDok b s.2 = true) : spDok b (spfrTD v b s).2.2 = true := by
  unfold spfrTD
  exact spfrPsD_ok (spDStr_ok h)
abbrev iodfrTopic : Io := ⟨[.ptr 0 0], oDec1, [], [.dat tfrTopic true false], none⟩
def FdfrTopic (d : iodfrTopic.In) : Tr iodfrTopic.Res := .ite (spDok d.2.2.2.1.1 d.2.2.2.1.2.1) (.ret (.ret (((spfrTD d.2.2.1.2.1 d.2.2.2.1.1 (decSt d.2.2)).1, ()), decOut1 d.2.2.1.2.1 d.2.2.2.1.1 (spfrTD d.2.2.1.2.1 d.2.2.2.1.1 (decSt d.2.2)).2))) .no
abbrev csdfrTopic : List (Nat × Hc) := [(84, ioHd iodStr FdStr), (111, ioHd iodfrParts FdfrParts)]
def hddfrTopic : Hd := hdT csdfrTopic
def lpdfrTopic : Lp := lpT []
def bodydfrTopic (a0 : Int) (a1 : Int) (a2 : List Int) (a3 : Int) : Option iodfrTopic.Res := bif spDok a2 a3 then bif spDok a2 (spDStr a2 (a1, a3)).snd.snd then some (Out.ret ((((spDStr a2 (a1, a3)).fst, (spfrPsD a0 a2 (spDStr a2 (a1, a3)).snd).fst, ()), ()), ((), ()), ((), a0, (spfrPsD a0 a2 (spDStr a2 (a1, a3)).snd).snd.fst, ()), (a2, (spfrPsD a0 a2 (spDStr a2 (a1, a3)).snd).snd.snd, ()), ())) else none else none
theorem rundfrTopic (a0 : Int) (a1 : Int) (a2 : List Int) (a3 : Int) : Io.run tt hddfrTopic dr lpdfrTopic iodfrTopic Go.Proofs.Tryz.f110 (((), ()), ((), ()), ((), a0, a1, ()), (a2, a3, ()), ()) = bodydfrTopic a0 a1 a2 a3 := by kernel_rfl
theorem okdfrTopic : HcOk prog 110 (ioHd iodfrTopic FdfrTopic) := by
  refine fn_sound (n := 400) hm (cs := csdfrTopic) (.cons okdStr (.cons okdfrParts .nil)) (lp := lpdfrTopic) (fn := Go.Proofs.Tryz.f110) (by kernel_rfl) (by kernel_rfl) (by kernel_rfl) iodfrTopic (.done (by kernel_rfl)) FdfrTopic ?_
  rintro ⟨⟨⟨⟩, ⟨⟩⟩, ⟨⟨⟩, ⟨⟩⟩, ⟨⟨⟩, (v : Int), (e : Int), ⟨⟩⟩, ⟨(b : List Int), (p : Int), ⟨⟩⟩, ⟨⟩⟩ out hw ho
  obtain ⟨hg, ho⟩ := Tr.guard ho
  have hg : spDok b p = true := hg
  cases ho
  refine (rundfrTopic v e b p).trans ?_
  unfold bodydfrTopic
  show _ = some (Out.ret (((spfrTD v b (e, p)).1, ()), decOut1 v b (spfrTD v b (e, p)).2))
  unfold spfrTD
  refine (bif_true hg _ _).trans ?_
  exact bif_true (spDStr_ok (s := (e, p)) hg) _ _
@[irreducible] noncomputable def spfrTsD (v : Int) (b : List Int) (s : DeS) : List tfrTopic.den × DeS := spList (spfrTD v b) b s
theorem spfrTsD_ok {v : Int} {b : List Int} {s : DeS} (h : spDok b s.2 = true) : spDok b (spfrTsD v b s).2.2 = true := by
  unfold spfrTsD
  exact spList_ok (fun s h => spfrTD_ok h) h
abbrev iodfrTopics : Io := ⟨[.ptr 0 0, .fnc 110 false [2]], oDecC, [], [.dat (.sl 169 tfrTopic) false false], none⟩
def FdfrTopics (d : iodfrTopics.In) : Tr iodfrTopics.Res := .ite (spDok d.2.2.1.1 d.2.2.1.2.1) (.ret (.ret (((spfrTsD d.2.1.2.1 d.2.2.1.1 (decStC d.2)).1, ()), decOutC d.2.1.2.1 d.2.2.1.1 (spfrTsD d.2.1.2.1 d.2.2.1.1 (decStC d.2)).2))) .no
abbrev csdfrTopics : List (Nat × Hc) := [(81, ioHd iodI32 FdI32), (110, ioHd iodfrTopic FdfrTopic)]
def hddfrTopics : Hd := hdT csdfrTopics
abbrev lodfrTopics_10 : Lo := ⟨⟨[.one (.ptr 0 0), .one (.fnp 110 false [2]), .any, .any, .any, .one (.hol (.int IntKind.i32)), .one (.onl 169 tfrTopic 19), .one (.hol (.int IntKind.i32)), .any, .any, .any, .any, .any, .any, .any, .any, .any, .any, .any, .any, .any, .any, .any, .any, .any, .any, .any, .any, .any, .any, .any, .any, .any, .any, .any, .any, .any, .any, .any, .any, .any, .any, .any, .any, .any, .any], [some [.ptr 1 0, .hol (.int IntKind.i64), .hol (.int IntKind.i64)], some [.hol (.sl 5 (Ty.int IntKind.u8)), .hol (.int IntKind.i64)], some [.ptr 0 0]]⟩, [(.exit 1, ⟨[.any, .any, .any, .any, .any, .any, .one (.onl 169 tfrTopic 19), .any, .any, .any, .any, .any, .any, .any, .any, .any, .any, .any, .any, .any, .any, .any, .any, .any, .any, .any, .any, .any, .any, .any, .any, .any, .any, .any, .any, .any, .any, .any, .any, .any, .any, .any, .any, .any, .any, .any], [some [.ptr 1 0, .hol (.int IntKind.i64), .hol (.int IntKind.i64)], some [.hol (.sl 5 (Ty.int IntKind.u8)), .hol (.int IntKind.i64)], some [.ptr 0 0]]⟩)]⟩
-- FdfrTopics_10 : lodfrTopics_10.st.den → Tr (DenX lodfrTopics_10.xs) | ((h4, (h5, (h6, ()))), ((h7, (h8, ())), ((h9, (h10, ())), ((), ()))))
def FdfrTopics_10 (d : lodfrTopics_10.st.den) : Tr (DenX lodfrTopics_10.xs) :=
  .ite (decide (d.1.2.2.1 = 0) && (decide (d.1.2.1.length = 0) && (spDok d.2.2.1.1 d.2.2.1.2.1 && (decide (d.1.1 ≤ (16 : Int)) || decide (d.2.1.2.1 ≠ 0))))) (.ret (.ret ((), (((spRep (spfrTD d.2.1.1 d.2.2.1.1) d.1.1.toNat (d.2.1.2.1, d.2.2.1.2.1)).1, ()), decOutB d.2.1.1 d.2.2.1.1 (spRep (spfrTD d.2.1.1 d.2.2.1.1) d.1.1.toNat (d.2.1.2.1, d.2.2.1.2.1)).2)))) .no
def lpdfrTopics : Lp := lpT [(10, loHd lodfrTopics_10 FdfrTopics_10)]
def stepdfrTopics_10 {R : Type} (h4 : Int) (h5 : List tfrTopic.den) (h6 : Int) (h7 : Int) (h8 : Int) (h9 : List Int) (h10 : Int) (next : Int → List tfrTopic.den → Int → Int → Int → List Int → Int → Option R) (out : DenX lodfrTopics_10.xs → Option R) : Option R := bif decide (h6 < h4) then bif h8 == 0 then bif spDok h9 h10 then bif decide (h5.length + 1 ≤ 4294967296) then next (h4) (h5 ++ [(spfrTD h7 h9 (h8, h10)).fst]) (IntKind.i32.wrap (h6 + 1)) (h7) ((spfrTD h7 h9 (h8, h10)).snd.fst) (h9) ((spfrTD h7 h9 (h8, h10)).snd.snd) else none else none else out (.ret ((), ((h5, ()), ((h7, (h8, ())), ((h9, (h10, ())), ((), ())))))) else out (.ret ((), ((h5, ()), ((h7, (h8, ())), ((h9, (h10, ())), ((), ()))))))
def itdfrTopics_10 (n : Nat) (h4 : Int) (h5 : List tfrTopic.den) (h6 : Int) (h7 : Int) (h8 : Int) (h9 : List Int) (h10 : Int) : Option (DenX lodfrTopics_10.xs) := lpN tt hddfrTopics dr lpdfrTopics 3 Go.Proofs.Tryz.f109 (topL Go.Proofs.Tryz.f109 0) n (lodfrTopics_10.st.mk' ((h4, (h5, (h6, ()))), ((h7, (h8, ())), ((h9, (h10, ())), ((), ()))))) (decX lodfrTopics_10.xs)
theorem sldfrTopics_10 (n : Nat) (h4 : Int) (h5 : List tfrTopic.den) (h6 : Int) (h7 : Int) (h8 : Int) (h9 : List Int) (h10 : Int) : itdfrTopics_10 (n + 1) h4 h5 h6 h7 h8 h9 h10 = stepdfrTopics_10 h4 h5 h6 h7 h8 h9 h10 (itdfrTopics_10 n) some := by kernel_rfl
theorem loopdfrTopics (n v : Int) (b : List Int) : ∀ (k j : Nat) (xs : List tfrTopic.den) (s : DeS), n.toNat < j + k → j ≤ n.toNat → xs.length = j → spDok b s.2 = true → (s.1 = 0 → n ≤ 16) →
    itdfrTopics_10 k n xs j v s.1 b s.2 = some (.ret ((), ((xs ++ (spRep (spfrTD v b) (n.toNat - j) s).1, ()), decOutB v b (spRep (spfrTD v b) (n.toNat - j) s).2))) := by
  intro k
  induction k with
  | zero => intro j xs s h; omega
  | succ k ih =>
    intro j xs s h1 h2 h3 h4 h5
    rw [sldfrTopics_10]
    unfold stepdfrTopics_10
    by_cases hj : (j : Int) < n
    · refine (bif_true (by simpa using hj) _ _).trans ?_
      obtain ⟨m, hm⟩ : ∃ m, n.toNat - j = m + 1 := ⟨n.toNat - j - 1, by omega⟩
      rw [hm]
      by_cases he : s.1 = 0
      · refine (bif_true (by simpa using he) _ _).trans ?_
        have hn := h5 he
        refine (bif_true h4 _ _).trans ?_
        refine (bif_true (decide_eq_true (show xs.length + 1 ≤ 4294967296 by omega)) _ _).trans ?_
        have hw : IntKind.i32.wrap ((j : Int) + 1) = ((j + 1 : Nat) : Int) := wrap_id (by simp [inR, IntKind.min, IntKind.max, IntKind.signed, IntKind.bits]; omega)
        rw [hw]
        refine (ih (j + 1) (xs ++ [(spfrTD v b s).1]) (spfrTD v b s).2 (by omega) (by omega) (by simp [h3]) (spfrTD_ok h4) (fun _ => hn)).trans ?_
        rw [show n.toNat - (j + 1) = m by omega, spRep, if_pos he]
        simp
      · refine (bif_false (by simpa using he) _ _).trans ?_
        rw [spRep, if_neg he]
        simp
    · refine (bif_false (by simpa using hj) _ _).trans ?_
      rw [show n.toNat - j = 0 by omega, spRep]
      simp
def bodydfrTopics (a0 : Int) (a1 : Int) (a2 : List Int) (a3 : Int) : Option iodfrTopics.Res := bif spDok a2 a3 then bif (spDn IntKind.i32 4 a2 (a1, a3)).snd.fst != 0 then (FdfrTopics_10 (((spDn IntKind.i32 4 a2 (a1, a3)).fst, ([], (0, ()))), ((a0, ((spDn IntKind.i32 4 a2 (a1, a3)).snd.fst, ())), ((a2, ((spDn IntKind.i32 4 a2 (a1, a3)).snd.snd, ())), ((), ()))))).run fun y => match y with | .ret ((), ((x28, ()), (x29, x30, ()), (x31, x32, ()), (), ())) => (some (Out.ret ((x28, ()), ((), x29, x30, ()), (x31, x32, ()), ((), ()), ()))) else bif decide ((spDn IntKind.i32 4 a2 (a1, a3)).fst < 0) then (FdfrTopics_10 (((spDn IntKind.i32 4 a2 (a1, a3)).fst, ([], (0, ()))), ((a0, (5, ())), ((a2, ((spDn IntKind.i32 4 a2 (a1, a3)).snd.snd, ())), ((), ()))))).run fun y => match y with | .ret ((), ((x40, ()), (x41, x42, ()), (x43, x44, ()), (), ())) => (some (Out.ret ((x40, ()), ((), x41, x42, ()), (x43, x44, ()), ((), ()), ()))) else bif decide (16 < (spDn IntKind.i32 4 a2 (a1, a3)).fst) then (FdfrTopics_10 (((spDn IntKind.i32 4 a2 (a1, a3)).fst, ([], (0, ()))), ((a0, (9, ())), ((a2, ((spDn IntKind.i32 4 a2 (a1, a3)).snd.snd, ())), ((), ()))))).run fun y => match y with | .ret ((), ((x52, ()), (x53, x54, ()), (x55, x56, ()), (), ())) => (some (Out.ret ((x52, ()), ((), x53, x54, ()), (x55, x56, ()), ((), ()), ()))) else (FdfrTopics_10 (((spDn IntKind.i32 4 a2 (a1, a3)).fst, ([], (0, ()))), ((a0, ((spDn IntKind.i32 4 a2 (a1, a3)).snd.fst, ())), ((a2, ((spDn IntKind.i32 4 a2 (a1, a3)).snd.snd, ())), ((), ()))))).run fun y => match y with | .ret ((), ((x64, ()), (x65, x66, ()), (x67, x68, ()), (), ())) => (some (Out.ret ((x64, ()), ((), x65, x66, ()), (x67, x68, ()), ((), ()), ()))) else none
theorem rundfrTopics (a0 : Int) (a1 : Int) (a2 : List Int) (a3 : Int) : Io.run tt hddfrTopics dr lpdfrTopics iodfrTopics Go.Proofs.Tryz.f109 (((), (), ()), ((), a0, a1, ()), (a2, a3, ()), ((), ()), ()) = bodydfrTopics a0 a1 a2 a3 := by kernel_rfl
theorem okdfrTopics : HcOk prog 109 (ioHd iodfrTopics FdfrTopics) := by
  refine fn_sound (n := 400) hm (cs := csdfrTopics) (.cons okdI32 (.cons okdfrTopic .nil)) (lp := lpdfrTopics) (fn := Go.Proofs.Tryz.f109) (by kernel_rfl) (by kernel_rfl) (by kernel_rfl) iodfrTopics (.step (h0 := loHd lodfrTopics_10 FdfrTopics_10) (by kernel_rfl) (loop_sound (n := 400) hm (cs := csdfrTopics) (.cons okdI32 (.cons okdfrTopic .nil)) (lp := lpdfrTopics) (fn := Go.Proofs.Tryz.f109) (.done (by kernel_rfl)) lodfrTopics_10 FdfrTopics_10 ?_) (.done (by kernel_rfl))) FdfrTopics ?_
  · rintro ⟨⟨(n : Int), (xs : List tfrTopic.den), (i : Int), ⟨⟩⟩, ⟨⟨(v : Int), (e : Int), ⟨⟩⟩, ⟨(b : List Int), (p : Int), ⟨⟩⟩, ⟨⟨⟩, ⟨⟩⟩⟩⟩ y hw hy
    obtain ⟨hg, hy⟩ := Tr.guard hy
    simp only [Bool.and_eq_true, decide_eq_true_eq, Bool.or_eq_true] at hg
    obtain ⟨h1, h2, h3, h4⟩ := hg
    have h1 : i = 0 := h1
    have h2 : xs = [] := List.eq_nil_of_length_eq_zero h2
    have h3 : spDok b p = true := h3
    have h4 : n ≤ 16 ∨ e ≠ 0 := h4
    subst h1
    subst h2
    refine ⟨n.toNat + 1, (loopdfrTopics n v b (n.toNat + 1) 0 [] (e, p) (by omega) (by omega) rfl h3 (fun he => h4.resolve_right (fun h => h he))).trans ?_⟩
    rw [← hy]; rfl
  · rintro ⟨⟨⟨⟩, ⟨⟩, ⟨⟩⟩, ⟨⟨⟩, (v : Int), (e : Int), ⟨⟩⟩, ⟨(b : List Int), (p : Int), ⟨⟩⟩, ⟨⟨⟩, ⟨⟩⟩, ⟨⟩⟩ out hw ho
    obtain ⟨hg, ho⟩ := Tr.guard ho
    have hg : spDok b p = true := hg
    cases ho
    refine (rundfrTopics v e b p).trans ?_
    unfold bodydfrTopics
    show _ = some (Out.ret (((spfrTsD v b (e, p)).1, ()), decOutC v b (spfrTsD v b (e, p)).2))
    unfold spfrTsD spList
    refine (bif_true hg _ _).trans ?_
    have hr : spDok b (spDn .i32 4 b (e, p)).2.2 = true := spDn_ok .i32 4 (s := (e, p)) hg
    generalize spDn .i32 4 b (e, p) = r at hr ⊢
    obtain ⟨n, e1, q⟩ := r
    have hr : spDok b q = true := hr
    have key : ∀ e' : Int, (e' = 0 → n ≤ 16) → FdfrTopics_10 ((n, ([], (0, ()))), ((v, (e', ())), ((b, (q, ())), ((), ())))) = .ite true (.ret (.ret ((), (((spRep (spfrTD v b) n.toNat (e', q)).1, ()), decOutB v b (spRep (spfrTD v b) n.toNat (e', q)).2)))) .no := by
      intro e' he
      refine congrArg (fun c => Tr.ite c _ _) ?_
      show (decide ((0 : Int) = 0) && (decide (([] : List tfrTopic.den).length = 0) && (spDok b q && (decide (n ≤ 16) || decide (e' ≠ 0))))) = true
      rw [hr]
      by_cases h : e' = 0
      · simp [he h]
      · simp [h]
    unfold spLen
    show (bif e1 != 0 then _ else _) = _
    by_cases h1 : e1 = 0
    · refine (bif_false (by simpa using h1) _ _).trans ?_
      show (bif decide (n < 0) then _ else _) = _
      rw [if_pos h1]
      by_cases h2 : n < 0
      · refine (bif_true (by simpa using h2) _ _).trans ?_
        show (FdfrTopics_10 ((n, ([], (0, ()))), ((v, (5, ())), ((b, (q, ())), ((), ()))))).run _ = _
        rw [key 5 (by omega), if_pos h2]
        rfl
      · refine (bif_false (by simpa using h2) _ _).trans ?_
        show (bif decide (16 < n) then _ else _) = _
        rw [if_neg h2]
        by_cases h3 : 16 < n
        · refine (bif_true (by simpa using h3) _ _).trans ?_
          show (FdfrTopics_10 ((n, ([], (0, ()))), ((v, (9, ())), ((b, (q, ())), ((), ()))))).run _ = _
          rw [key 9 (by omega), if_pos h3]
          rfl
        · refine (bif_false (by simpa using h3) _ _).trans ?_
          show (FdfrTopics_10 ((n, ([], (0, ()))), ((v, (e1, ())), ((b, (q, ())), ((), ()))))).run _ = _
          rw [key e1 (by omega), if_neg h3]
          rfl
    · refine (bif_true (by simpa using h1) _ _).trans ?_
      show (FdfrTopics_10 ((n, ([], (0, ()))), ((v, (e1, ())), ((b, (q, ())), ((), ()))))).run _ = _
      rw [key e1 (fun h => absurd h h1), if_neg h1]
      rfl
abbrev iodfrTopicsZ : Io := ⟨[.ptr 0 0, .fnc 110 false [1]], oDecCZ, [], [.dat (.sl 169 tfrTopic) false false], none⟩
def FdfrTopicsZ (d : iodfrTopicsZ.In) : Tr iodfrTopicsZ.Res := .ite (decide (d.2.1.2.2.1 ≠ 0)) (.ret (.ret ((([] : List tfrTopic.den), ()), d.2))) .no
abbrev csdfrTopicsZ : List (Nat × Hc) := [(81, orHd deadB (ioHd iodI32Z FdI32Z) (ioHd iodI32 FdI32))]
def hddfrTopicsZ : Hd := hdT csdfrTopicsZ
abbrev lodfrTopicsZ_10 : Lo := ⟨⟨[.one (.ptr 0 0), .one (.fnp 110 false [1]), .any, .any, .any, .one (.hol (.int IntKind.i32)), .one (.onl 169 tfrTopic 17), .one (.hol (.int IntKind.i32)), .any, .any, .any, .any, .any, .any, .any, .any, .any, .any, .any, .any, .any, .any, .any, .any, .any, .any, .any, .any, .any, .any, .any, .any, .any, .any, .any, .any, .any, .any, .any, .any, .any, .any, .any, .any, .any, .any], [some [.nilp, .hol (.int IntKind.i64), .hol (.int IntKind.i64)], some [.ptr 0 0]]⟩, [(.exit 1, ⟨[.any, .any, .any, .any, .any, .any, .one (.onl 169 tfrTopic 17), .any, .any, .any, .any, .any, .any, .any, .any, .any, .any, .any, .any, .any, .any, .any, .any, .any, .any, .any, .any, .any, .any, .any, .any, .any, .any, .any, .any, .any, .any, .any, .any, .any, .any, .any, .any, .any, .any, .any], [some [.nilp, .hol (.int IntKind.i64), .hol (.int IntKind.i64)], some [.ptr 0 0]]⟩)]⟩
-- FdfrTopicsZ_10 : lodfrTopicsZ_10.st.den → Tr (DenX lodfrTopicsZ_10.xs) | ((h2, (h3, (h4, ()))), ((h5, (h6, ())), ((), ())))
def FdfrTopicsZ_10 (d : lodfrTopicsZ_10.st.den) : Tr (DenX lodfrTopicsZ_10.xs) :=
  .ite (decide (d.2.1.2.1 ≠ 0)) (.ret (.ret ((), ((d.1.2.1, ()), d.2)))) .no
def lpdfrTopicsZ : Lp := lpT [(10, loHd lodfrTopicsZ_10 FdfrTopicsZ_10)]
def stepdfrTopicsZ_10 {R : Type} (h2 : Int) (h3 : List tfrTopic.den) (h4 : Int) (h5 : Int) (h6 : Int) (next : Int → List tfrTopic.den → Int → Int → Int → Option R) (out : DenX lodfrTopicsZ_10.xs → Option R) : Option R := bif decide (h4 < h2) then bif h6 == 0 then none else out (.ret ((), ((h3, ()), ((h5, (h6, ())), ((), ()))))) else out (.ret ((), ((h3, ()), ((h5, (h6, ())), ((), ())))))
def itdfrTopicsZ_10 (n : Nat) (h2 : Int) (h3 : List tfrTopic.den) (h4 : Int) (h5 : Int) (h6 : Int) : Option (DenX lodfrTopicsZ_10.xs) := lpN tt hddfrTopicsZ dr lpdfrTopicsZ 2 Go.Proofs.Tryz.f109 (topL Go.Proofs.Tryz.f109 0) n (lodfrTopicsZ_10.st.mk' ((h2, (h3, (h4, ()))), ((h5, (h6, ())), ((), ())))) (decX lodfrTopicsZ_10.xs)
theorem sldfrTopicsZ_10 (n : Nat) (h2 : Int) (h3 : List tfrTopic.den) (h4 : Int) (h5 : Int) (h6 : Int) : itdfrTopicsZ_10 (n + 1) h2 h3 h4 h5 h6 = stepdfrTopicsZ_10 h2 h3 h4 h5 h6 (itdfrTopicsZ_10 n) some := by kernel_rfl
def bodydfrTopicsZ (a0 : Int) (a1 : Int) : Option iodfrTopicsZ.Res := bif decide (a1 ≠ 0) then bif a1 != 0 then (FdfrTopicsZ_10 ((0, ([], (0, ()))), ((a0, (a1, ())), ((), ())))).run fun y => match y with | .ret ((), ((x13, ()), (x14, x15, ()), (), ())) => (some (Out.ret ((x13, ()), ((), x14, x15, ()), ((), ()), ()))) else (FdfrTopicsZ_10 ((0, ([], (0, ()))), ((a0, (a1, ())), ((), ())))).run fun y => match y with | .ret ((), ((x21, ()), (x22, x23, ()), (), ())) => (some (Out.ret ((x21, ()), ((), x22, x23, ()), ((), ()), ()))) else none
theorem rundfrTopicsZ (a0 : Int) (a1 : Int) : Io.run tt hddfrTopicsZ dr lpdfrTopicsZ iodfrTopicsZ Go.Proofs.Tryz.f109 (((), (), ()), ((), a0, a1, ()), ((), ()), ()) = bodydfrTopicsZ a0 a1 := by kernel_rfl
theorem okdfrTopicsZ : HcOk prog 109 (ioHd iodfrTopicsZ FdfrTopicsZ) := by
  refine fn_sound (n := 400) hm (cs := csdfrTopicsZ) (.cons (or_sound okdI32Z okdI32) .nil) (lp := lpdfrTopicsZ) (fn := Go.Proofs.Tryz.f109) (by kernel_rfl) (by kernel_rfl) (by kernel_rfl) iodfrTopicsZ (.step (h0 := loHd lodfrTopicsZ_10 FdfrTopicsZ_10) (by kernel_rfl) (loop_sound (n := 400) hm (cs := csdfrTopicsZ) (.cons (or_sound okdI32Z okdI32) .nil) (lp := lpdfrTopicsZ) (fn := Go.Proofs.Tryz.f109) (.done (by kernel_rfl)) lodfrTopicsZ_10 FdfrTopicsZ_10 ?_) (.done (by kernel_rfl))) FdfrTopicsZ ?_
  · rintro ⟨⟨(n : Int), (xs : List tfrTopic.den), (i : Int), ⟨⟩⟩, ⟨⟨(v : Int), (e : Int), ⟨⟩⟩, ⟨⟨⟩, ⟨⟩⟩⟩⟩ y hw hy
    obtain ⟨hg, hy⟩ := Tr.guard hy
    have hg : e ≠ 0 := of_decide_eq_true hg
    refine ⟨1, (sldfrTopicsZ_10 0 n xs i v e).trans ?_⟩
    unfold stepdfrTopicsZ_10
    rw [← hy]
    by_cases h : i < n
    · refine (bif_true (by simpa using h) _ _).trans ?_
      exact bif_false (by simpa using hg) _ _
    · exact bif_false (by simpa using h) _ _
  · rintro ⟨⟨⟨⟩, ⟨⟩, ⟨⟩⟩, ⟨⟨⟩, (v : Int), (e : Int), ⟨⟩⟩, ⟨⟨⟩, ⟨⟩⟩, ⟨⟩⟩ out hw ho
    obtain ⟨hg, ho⟩ := Tr.guard ho
    have hg : e ≠ 0 := of_decide_eq_true hg
    cases ho
    refine (rundfrTopicsZ v e).trans ?_
    unfold bodydfrTopicsZ
    have e1 : FdfrTopicsZ_10 ((0, ([], (0, ()))), ((v, (e, ())), ((), ()))) = .ite true (.ret (.ret ((), ((([] : List tfrTopic.den), ()), ((v, (e, ())), ((), ())))))) .no := congrArg (fun c => Tr.ite c _ _) (decide_eq_true hg)
    refine (bif_true (by simpa using hg) _ _).trans ?_
    refine (bif_true (by simpa using hg) _ _).trans ?_
    rw [e1]
    rfl
def spfrZ : tfrMsg.den := (0, (([] : List tfrTopic.den), ()))
def spfrDB (v : Int) (b : List Int) (s : DeS) : tfrMsg.den × DeS :=
  (((spDHasN .i32 4 v 1 3 b s).1, ((spfrTsD v b (spDHasN .i32 4 v 1 3 b s).2).1, ())), (spfrTsD v b (spDHasN .i32 4 v 1 3 b s).2).2)
def spfrD (v : Int) (b : List Int) : tfrMsg.den × Int := if 0 ≤ v ∧ v ≤ 3 ∧ (b.length : Int) ≤ 130048 then (if spDEnd b (spfrDB v b (0, 0)).2 = 0 then ((spfrDB v b (0, 0)).1, 0) else (spfrZ, spDEnd b (spfrDB v b (0, 0)).2)) else (spfrZ, spNewD v)
abbrev iodfrMsg : Io := ⟨[dI, dL], [], [], [.dat tfrMsg true false, dI], none⟩
def FdfrMsg (d : iodfrMsg.In) : Tr iodfrMsg.Res := .ret (.ret (((spfrD d.1.1 d.1.2.1).1, ((spfrD d.1.1 d.1.2.1).2, ())), ()))
abbrev csdfrMsg : List (Nat × Hc) := [(79, orHd newBad (ioHd iodNewZ FdNewZ) (ioHd iodNew FdNew)), (80, orHd deadB (ioHd iodHasZ FdHasZ) (ioHd iodHas FdHas)), (81, orHd deadB (ioHd iodI32Z FdI32Z) (ioHd iodI32 FdI32)), (109, orHd deadB (ioHd iodfrTopicsZ FdfrTopicsZ) (ioHd iodfrTopics FdfrTopics)), (90, orHd deadB (ioHd iodEndZ FdEndZ) (ioHd iodEnd FdEnd))]
def hddfrMsg : Hd := hdT csdfrMsg
def lpdfrMsg : Lp := lpT []
def bodydfrMsg (a0 : Int) (a1 : List Int) : Option iodfrMsg.Res := bif !(decide (0 ≤ a0) && (decide (a0 ≤ 3) && decide ((↑a1.length : Int) ≤ 130048))) then bif decide (0 ≤ a0) && (decide (a0 ≤ 3) && decide ((↑a1.length : Int) ≤ 130048)) then none else bif decide (spNewD a0 ≠ 0) then bif decide (spNewD a0 ≠ 0) then bif decide (spNewD a0 ≠ 0) then bif spNewD a0 != 0 then some (Out.ret (((0, [], ()), spNewD a0, ()), ())) else some (Out.ret (((0, [], ()), 0, ()), ())) else none else none else none else bif decide (0 ≤ a0) && (decide (a0 ≤ 3) && decide ((↑a1.length : Int) ≤ 130048)) then bif spDHas a0 1 3 0 then bif spDok a1 0 then bif spDok a1 (spRd a1 0 4).snd.fst then bif spDEnd a1 (spfrTsD a0 a1 ((spRd a1 0 4).snd.snd, (spRd a1 0 4).snd.fst)).snd != 0 then some (Out.ret (((0, [], ()), spDEnd a1 (spfrTsD a0 a1 ((spRd a1 0 4).snd.snd, (spRd a1 0 4).snd.fst)).snd, ()), ())) else some (Out.ret (((IntKind.i32.wrap (spRd a1 0 4).fst, (spfrTsD a0 a1 ((spRd a1 0 4).snd.snd, (spRd a1 0 4).snd.fst)).fst, ()), 0, ()), ())) else none else none else bif spDok a1 0 then bif spDEnd a1 (spfrTsD a0 a1 (0, 0)).snd != 0 then some (Out.ret (((0, [], ()), spDEnd a1 (spfrTsD a0 a1 (0, 0)).snd, ()), ())) else some (Out.ret (((0, (spfrTsD a0 a1 (0, 0)).fst, ()), 0, ()), ())) else none else none
theorem rundfrMsg (a0 : Int) (a1 : List Int) : Io.run tt hddfrMsg dr lpdfrMsg iodfrMsg Go.Proofs.Tryz.f40 ((a0, a1, ()), ()) = bodydfrMsg a0 a1 := by kernel_rfl
theorem okdfrMsg : HcOk prog 40 (ioHd iodfrMsg FdfrMsg) := by
  refine fn_sound (n := 400) hm (cs := csdfrMsg) (.cons (or_sound okdNewZ okdNew) (.cons (or_sound okdHasZ okdHas) (.cons (or_sound okdI32Z okdI32) (.cons (or_sound okdfrTopicsZ okdfrTopics) (.cons (or_sound okdEndZ okdEnd) .nil))))) (lp := lpdfrMsg) (fn := Go.Proofs.Tryz.f40) (by kernel_rfl) (by kernel_rfl) (by kernel_rfl) iodfrMsg (.done (by kernel_rfl)) FdfrMsg ?_
  rintro ⟨⟨(v : Int), (b : List Int), ⟨⟩⟩, ⟨⟩⟩ out hw ho
  cases ho
  refine (rundfrMsg v b).trans ?_
  unfold bodydfrMsg
  show _ = some (Out.ret (((spfrD v b).1, ((spfrD v b).2, ())), ()))
  by_cases h : 0 ≤ v ∧ v ≤ 3 ∧ (b.length : Int) ≤ 130048
  · have hc : (decide (0 ≤ v) && (decide (v ≤ 3) && decide ((b.length : Int) ≤ 130048))) = true := by simpa using h
    refine (bif_false (by rw [hc]; rfl) _ _).trans ?_
    refine (bif_true hc _ _).trans ?_
    have hg : spDok b ((0, 0) : DeS).2 = true := by simp [spDok]; omega
    unfold spfrD spfrDB
    rw [if_pos h]
    show (bif spDHas v 1 3 ((0, 0) : DeS).1 then _ else _) = _
    cases h0 : spDHas v 1 3 ((0, 0) : DeS).1
    · have e0 : spDHasN .i32 4 v 1 3 b ((0, 0) : DeS) = (0, ((0, 0) : DeS)) := by unfold spDHasN; rw [if_neg (by rw [h0]; decide)]
      rw [e0]
      refine (bif_true hg _ _).trans ?_
      have gf1 : spDok b (spfrTsD v b ((0, 0) : DeS)).2.2 = true := spfrTsD_ok (s := ((0, 0) : DeS)) hg
      show _ = some (Out.ret (((if spDEnd b (spfrTsD v b ((0, 0) : DeS)).2 = 0 then _ else _ : tfrMsg.den × Int).1, _), ()))
      by_cases hE : spDEnd b (spfrTsD v b ((0, 0) : DeS)).2 = 0
      · rw [if_pos hE]
        exact bif_false (show (spDEnd b (spfrTsD v b ((0, 0) : DeS)).2 != 0) = false by simpa using hE) _ _
      · rw [if_neg hE]
        exact bif_true (show (spDEnd b (spfrTsD v b ((0, 0) : DeS)).2 != 0) = true by simpa using hE) _ _
    · have e0 : spDHasN .i32 4 v 1 3 b ((0, 0) : DeS) = spDn .i32 4 b ((0, 0) : DeS) := by unfold spDHasN; rw [if_pos h0]
      rw [e0]
      refine (bif_true hg _ _).trans ?_
      have g0 : spDok b (spDn .i32 4 b ((0, 0) : DeS)).2.2 = true := spDn_ok .i32 4 (s := ((0, 0) : DeS)) hg
      refine (bif_true g0 _ _).trans ?_
      have gt1 : spDok b (spfrTsD v b (spDn .i32 4 b ((0, 0) : DeS)).2).2.2 = true := spfrTsD_ok (s := (spDn .i32 4 b ((0, 0) : DeS)).2) g0
      show _ = some (Out.ret (((if spDEnd b (spfrTsD v b (spDn .i32 4 b ((0, 0) : DeS)).2).2 = 0 then _ else _ : tfrMsg.den × Int).1, _), ()))
      by_cases hE : spDEnd b (spfrTsD v b (spDn .i32 4 b ((0, 0) : DeS)).2).2 = 0
      · rw [if_pos hE]
        exact bif_false (show (spDEnd b (spfrTsD v b (spDn .i32 4 b ((0, 0) : DeS)).2).2 != 0) = false by simpa using hE) _ _
      · rw [if_neg hE]
        exact bif_true (show (spDEnd b (spfrTsD v b (spDn .i32 4 b ((0, 0) : DeS)).2).2 != 0) = true by simpa using hE) _ _
  · have hc : (decide (0 ≤ v) && (decide (v ≤ 3) && decide ((b.length : Int) ≤ 130048))) = false := by
      rw [Bool.eq_false_iff]
      intro h'
      simp only [Bool.and_eq_true, decide_eq_true_eq] at h'
      exact h h'
    have hn : spNewD v ≠ 0 := by unfold spNewD; split <;> decide
    unfold spfrD
    rw [if_neg h]
    refine (bif_true (by rw [hc]; rfl) _ _).trans ?_
    refine (bif_false hc _ _).trans ?_
    repeat refine (bif_true (decide_eq_true hn) _ _).trans ?_
    exact bif_true (by simpa using hn) _ _
end
end Go.Proofs.YtjpeefegeobgfaaGreat.Sym
namespace Go.Proofs.YtjpeefegeobgfaaGreat.Sym
open Go
set_option linter.unusedSimpArgs false
set_option linter.unusedVariables false
noncomputable section
def spfrF (p : tfrPart.den) : Nd := ndRow [ndNum 3 p.1, ndNum 2 p.2.1, ndNum 4 p.2.2.1, ndNum 4 p.2.2.2.1, ndNum 4 p.2.2.2.2.1, ndNBytes p.2.2.2.2.2.1]
theorem spfrF_eq {p : tfrPart.den} (h : tfrPart.wf p) : ndRow [ndNum 3 (IntKind.i64.wrap p.1), ndNum 2 (IntKind.i64.wrap p.2.1), ndNum 4 p.2.2.1, ndNum 4 p.2.2.2.1, ndNum 4 p.2.2.2.2.1, ndNBytes p.2.2.2.2.2.1] = spfrF p := by
  rw [i64_i32 (n := p.1) h.1, i64_i16 (n := p.2.1) h.2.1]; rfl
def spfrFT (t : tfrTopic.den) : Nd := ndRow [ndText t.1, ndRows (t.2.1.map spfrF)]
@[irreducible] def spfrFull (m : tfrMsg.den) : Nd := ndRow [ndNum 3 m.1, ndRows (m.2.1.map spfrFT)]
def spfrO (x : Nd) : tfrPart.den := (IntKind.i32.wrap (spAt x 0).lab.2.1, (IntKind.i16.wrap (spAt x 1).lab.2.1, ((spAt x 2).lab.2.1, ((spAt x 3).lab.2.1, ((spAt x 4).lab.2.1, ((spAt x 5).lab.2.2, ()))))))
def spfrOT (x : Nd) : tfrTopic.den := ((spAt x 0).lab.2.2.2.1, ((spAt x 1).kids.map spfrO, ()))
@[irreducible] def spfrOM (n : Nd) : tfrMsg.den := (IntKind.i32.wrap (spAt n 0).lab.2.1, ((spAt n 1).kids.map spfrOT, ()))
theorem spfrO_full {p : tfrPart.den} (h : tfrPart.wf p) : spfrO (spfrF p) = p := by
  obtain ⟨(ix : Int), (cd : Int), (hi : Int), (st : Int), (sa : Int), ⟨(rcz : Bool), (rcx : List Int), ⟨⟩⟩, ⟨⟩⟩ := p
  show (IntKind.i32.wrap ix, (IntKind.i16.wrap cd, (hi, (st, (sa, ((rcz, (rcx, ())), ())))))) = _
  rw [i32_id (n := ix) h.1, i16_id (n := cd) h.2.1]
  try rfl
theorem spfrOT_full {t : tfrTopic.den} (h : tfrTopic.wf t) : spfrOT (spfrFT t) = t := by
  obtain ⟨n, l, ⟨⟩⟩ := t
  show (n, ((l.map spfrF).map spfrO, ())) = _
  rw [List.map_map, map_id_of (f := spfrO ∘ spfrF) (l := l) fun p hp => spfrO_full (h.2.1.2 p hp)]
theorem spfrOM_full {m : tfrMsg.den} (h : tfrMsg.wf m) : spfrOM (spfrFull m) = m := by
  obtain ⟨(th : Int), (ts : List tfrTopic.den), ⟨⟩⟩ := m
  unfold spfrOM spfrFull
  show (IntKind.i32.wrap th, ((ts.map spfrFT).map spfrOT, ())) = _
  rw [i32_id (n := th) h.1, List.map_map, map_id_of (f := spfrOT ∘ spfrFT) (l := ts) fun t ht => spfrOT_full (h.2.1.2 t ht)]
abbrev iozfrFull : Io := ⟨[.dat tfrMsg true false], [], [], [dNode], none⟩
def spfrLens (l : List tfrTopic.den) : Bool := decide (l.length ≤ 4294967296) && l.all fun t => decide (t.2.1.length ≤ 4294967296)
def FzfrFull (d : iozfrFull.In) : Tr iozfrFull.Res := .ite (spfrLens d.1.1.2.1) (.ret (.ret ((spfrFull d.1.1, ()), ()))) .no
abbrev cszfrFull : List (Nat × Hc) := [(130, ioHd iotNum FtNum), (131, ioHd iotRow FtRow), (132, ioHd iotText FtText), (133, ioHd iotRows FtRows), (158, ioHd iotNBytes FtNBytes)]
def hdzfrFull : Hd := hdT cszfrFull
abbrev lozfrFull_8 : Lo := ⟨⟨[.any, .one (.ptr 1 0), .one (.ptr 2 0), .one (.onl 98 tNode 7), .one (.hol (.int IntKind.i64)), .one (.onl 98 tNode 11), .one (.hol (.int IntKind.i64)), .any, .any, .any, .any, .any, .any, .any, .any, .any, .any, .any, .any, .any, .any, .any, .any, .any, .any, .any, .any, .any, .any, .any, .any, .any, .any, .any, .any, .any, .any, .any, .any, .any, .any, .any, .any, .any, .any, .any, .any, .any, .any, .any, .any, .any, .any, .any, .any, .any, .any, .any, .any, .any, .any, .any, .any, .any, .any, .any, .any, .any, .any, .any, .any, .any, .any, .any, .any, .any, .any, .any, .any, .any, .any, .any, .any, .any, .any, .any], [none, some [.hol (.int IntKind.i32), .hol (.sl 169 tfrTopic)], some [.hol (.int IntKind.i64), .hol (.int IntKind.i64), .hol .bool, .onl 5 (Ty.int IntKind.u8) 1032, .onl 98 tNode 1034]]⟩, [(.exit 2, ⟨[.any, .one (.ptr 1 0), .one (.ptr 2 0), .one (.onl 98 tNode 7), .one (.hol (.int IntKind.i64)), .one (.onl 98 tNode 11), .any, .any, .any, .any, .any, .any, .any, .any, .any, .any, .any, .any, .any, .any, .any, .any, .any, .any, .any, .any, .any, .any, .any, .any, .any, .any, .any, .any, .any, .any, .any, .any, .any, .any, .any, .any, .any, .any, .any, .any, .any, .any, .any, .any, .any, .any, .any, .any, .any, .any, .any, .any, .any, .any, .any, .any, .any, .any, .any, .any, .any, .any, .any, .any, .any, .any, .any, .any, .any, .any, .any, .any, .any, .any, .any, .any, .any, .any, .any, .any], [none, some [.hol (.int IntKind.i32), .hol (.sl 169 tfrTopic)], some [.hol (.int IntKind.i64), .hol (.int IntKind.i64), .hol .bool, .onl 5 (Ty.int IntKind.u8) 1032, .onl 98 tNode 1034]]⟩)]⟩
-- FzfrFull_8 : lozfrFull_8.st.den → Tr (DenX lozfrFull_8.xs) | ((h11, (h12, (h13, (h14, ())))), ((h15, (h16, ())), ((h17, (h18, (h19, (h20, (h21, ()))))), ())))
abbrev lozfrFull_4 : Lo := ⟨⟨[.any, .one (.ptr 1 0), .one (.ptr 2 0), .one (.onl 98 tNode 7), .one (.hol (.int IntKind.i64)), .any, .any, .any, .any, .any, .any, .any, .any, .any, .any, .any, .any, .any, .any, .any, .any, .any, .any, .any, .any, .any, .any, .any, .any, .any, .any, .any, .any, .any, .any, .any, .any, .any, .any, .any, .any, .any, .any, .any, .any, .any, .any, .any, .any, .any, .any, .any, .any, .any, .any, .any, .any, .any, .any, .any, .any, .any, .any, .any, .any, .any, .any, .any, .any, .any, .any, .any, .any, .any, .any, .any, .any, .any, .any, .any, .any, .any, .any, .any, .any, .any], [none, some [.hol (.int IntKind.i32), .hol (.sl 169 tfrTopic)], some [.hol (.int IntKind.i64), .hol (.int IntKind.i64), .hol .bool, .onl 5 (Ty.int IntKind.u8) 1032, .onl 98 tNode 1034]]⟩, [(.exit 0, ⟨[.any, .one (.ptr 1 0), .one (.ptr 2 0), .one (.onl 98 tNode 7), .any, .any, .any, .any, .any, .any, .any, .any, .any, .any, .any, .any, .any, .any, .any, .any, .any, .any, .any, .any, .any, .any, .any, .any, .any, .any, .any, .any, .any, .any, .any, .any, .any, .any, .any, .any, .any, .any, .any, .any, .any, .any, .any, .any, .any, .any, .any, .any, .any, .any, .any, .any, .any, .any, .any, .any, .any, .any, .any, .any, .any, .any, .any, .any, .any, .any, .any, .any, .any, .any, .any, .any, .any, .any, .any, .any, .any, .any, .any, .any, .any, .any], [none, some [.hol (.int IntKind.i32), .hol (.sl 169 tfrTopic)], some [.hol (.int IntKind.i64), .hol (.int IntKind.i64), .hol .bool, .onl 5 (Ty.int IntKind.u8) 1032, .onl 98 tNode 1034]]⟩)]⟩
-- FzfrFull_4 : lozfrFull_4.st.den → Tr (DenX lozfrFull_4.xs) | ((h2, (h3, ())), ((h4, (h5, ())), ((h6, (h7, (h8, (h9, (h10, ()))))), ())))
def FzfrFull_8 (d : lozfrFull_8.st.den) : Tr (DenX lozfrFull_8.xs) :=
  .ite ((decide ((0 : Int) ≤ d.1.2.1) && decide (d.1.2.1 < (d.2.1.2.1.length : Int))) && ((decide (d.1.2.2.1.length = 0) && decide (d.1.2.2.2.1 = 0)) && decide ((d.2.1.2.1.getD d.1.2.1.toNat tfrTopic.zero).2.1.length ≤ 4294967296)))
    (.ret (.ret ((), ((d.1.1, (d.1.2.1, ((d.2.1.2.1.getD d.1.2.1.toNat tfrTopic.zero).2.1.map spfrF, ()))), (d.2.1, (d.2.2.1, ())))))) .no
def FzfrFull_4 (d : lozfrFull_4.st.den) : Tr (DenX lozfrFull_4.xs) :=
  .ite ((decide (d.1.1.length = 0) && decide (d.1.2.1 = 0)) && spfrLens d.2.1.2.1)
    (.ret (.ret ((), ((d.2.1.2.1.map spfrFT, ()), (d.2.1, (d.2.2.1, ())))))) .no
def lpzfrFull : Lp := lpT [(4, loHd lozfrFull_4 FzfrFull_4), (8, loHd lozfrFull_8 FzfrFull_8)]
def stepzfrFull_8 {R : Type} (h11 : List tNode.den) (h12 : Int) (h13 : List tNode.den) (h14 : Int) (h15 : Int) (h16 : List tfrTopic.den) (h17 : Int) (h18 : Int) (h19 : Bool) (h20 : List Int) (h21 : List tNode.den) (next : List tNode.den → Int → List tNode.den → Int → Int → List tfrTopic.den → Int → Int → Bool → List Int → List tNode.den → Option R) (out : DenX lozfrFull_8.xs → Option R) : Option R := bif decide (0 ≤ h12) && decide (h12 < (↑h16.length : Int)) then bif decide (h14 < (↑(List.length (h16.getD h12.toNat ([], [], ())).snd.fst) : Int)) then bif decide (0 ≤ h12) && decide (h12 < (↑h16.length : Int)) then bif decide (0 ≤ h14) && decide (h14 < (↑(List.length (h16.getD h12.toNat ([], [], ())).snd.fst) : Int)) then bif decide (h13.length + 1 ≤ 4294967296) then next (h11) (h12) (h13 ++ [Tre.mk (10, 0, false, [], ()) [Tre.mk (3, IntKind.i64.wrap (List.getD (h16.getD h12.toNat ([], [], ())).snd.fst h14.toNat (0, 0, 0, 0, 0, (false, [], ()), ())).fst, false, [], ()) [], Tre.mk (2, IntKind.i64.wrap (List.getD (h16.getD h12.toNat ([], [], ())).snd.fst h14.toNat (0, 0, 0, 0, 0, (false, [], ()), ())).snd.fst, false, [], ()) [], Tre.mk (4, (List.getD (h16.getD h12.toNat ([], [], ())).snd.fst h14.toNat (0, 0, 0, 0, 0, (false, [], ()), ())).snd.snd.fst, false, [], ()) [], Tre.mk (4, (List.getD (h16.getD h12.toNat ([], [], ())).snd.fst h14.toNat (0, 0, 0, 0, 0, (false, [], ()), ())).snd.snd.snd.fst, false, [], ()) [], Tre.mk (4, (List.getD (h16.getD h12.toNat ([], [], ())).snd.fst h14.toNat (0, 0, 0, 0, 0, (false, [], ()), ())).snd.snd.snd.snd.fst, false, [], ()) [], Tre.mk (8, 0, (List.getD (h16.getD h12.toNat ([], [], ())).snd.fst h14.toNat (0, 0, 0, 0, 0, (false, [], ()), ())).snd.snd.snd.snd.snd.fst) []]]) (IntKind.i64.wrap (h14 + 1)) (h15) (h16) (h17) (h18) (h19) (h20) (h21) else none else none else none else out (.ret ((), ((h11, (h12, (h13, ()))), ((h15, (h16, ())), ((h17, (h18, (h19, (h20, (h21, ()))))), ()))))) else none
def itzfrFull_8 (n : Nat) (h11 : List tNode.den) (h12 : Int) (h13 : List tNode.den) (h14 : Int) (h15 : Int) (h16 : List tfrTopic.den) (h17 : Int) (h18 : Int) (h19 : Bool) (h20 : List Int) (h21 : List tNode.den) : Option (DenX lozfrFull_8.xs) := lpN tt hdzfrFull dr lpzfrFull 0 Go.Proofs.Tryz.f103 (subL Go.Proofs.Tryz.f103 (topL Go.Proofs.Tryz.f103 0) 0) n (lozfrFull_8.st.mk' ((h11, (h12, (h13, (h14, ())))), ((h15, (h16, ())), ((h17, (h18, (h19, (h20, (h21, ()))))), ())))) (decX lozfrFull_8.xs)
theorem slzfrFull_8 (n : Nat) (h11 : List tNode.den) (h12 : Int) (h13 : List tNode.den) (h14 : Int) (h15 : Int) (h16 : List tfrTopic.den) (h17 : Int) (h18 : Int) (h19 : Bool) (h20 : List Int) (h21 : List tNode.den) : itzfrFull_8 (n + 1) h11 h12 h13 h14 h15 h16 h17 h18 h19 h20 h21 = stepzfrFull_8 h11 h12 h13 h14 h15 h16 h17 h18 h19 h20 h21 (itzfrFull_8 n) some := by kernel_rfl
def stepzfrFull_4 {R : Type} (h2 : List tNode.den) (h3 : Int) (h4 : Int) (h5 : List tfrTopic.den) (h6 : Int) (h7 : Int) (h8 : Bool) (h9 : List Int) (h10 : List tNode.den) (next : List tNode.den → Int → Int → List tfrTopic.den → Int → Int → Bool → List Int → List tNode.den → Option R) (out : DenX lozfrFull_4.xs → Option R) : Option R := bif decide (h3 < (↑h5.length : Int)) then (FzfrFull_8 ((h2, (h3, ([], (0, ())))), ((h4, (h5, ())), ((h6, (h7, (h8, (h9, (h10, ()))))), ())))).run fun y => match y with | .ret ((), ((x43, x44, x45, ()), (x46, x47, ()), (x48, x49, x50, x51, x52, ()), ())) => (bif decide (0 ≤ x44) && decide (x44 < (↑x47.length : Int)) then bif decide (x43.length + 1 ≤ 4294967296) then next (x43 ++ [Tre.mk (10, 0, false, [], ()) [Tre.mk (5, 0, false, (x47.getD x44.toNat ([], [], ())).fst, ()) [], Tre.mk (9, 0, false, [], ()) x45]]) (IntKind.i64.wrap (x44 + 1)) (x46) (x47) (x48) (x49) (x50) (x51) (x52) else none else none) else out (.ret ((), ((h2, ()), ((h4, (h5, ())), ((h6, (h7, (h8, (h9, (h10, ()))))), ())))))
def itzfrFull_4 (n : Nat) (h2 : List tNode.den) (h3 : Int) (h4 : Int) (h5 : List tfrTopic.den) (h6 : Int) (h7 : Int) (h8 : Bool) (h9 : List Int) (h10 : List tNode.den) : Option (DenX lozfrFull_4.xs) := lpN tt hdzfrFull dr lpzfrFull 0 Go.Proofs.Tryz.f103 (topL Go.Proofs.Tryz.f103 0) n (lozfrFull_4.st.mk' ((h2, (h3, ())), ((h4, (h5, ())), ((h6, (h7, (h8, (h9, (h10, ()))))), ())))) (decX lozfrFull_4.xs)
theorem slzfrFull_4 (n : Nat) (h2 : List tNode.den) (h3 : Int) (h4 : Int) (h5 : List tfrTopic.den) (h6 : Int) (h7 : Int) (h8 : Bool) (h9 : List Int) (h10 : List tNode.den) : itzfrFull_4 (n + 1) h2 h3 h4 h5 h6 h7 h8 h9 h10 = stepzfrFull_4 h2 h3 h4 h5 h6 h7 h8 h9 h10 (itzfrFull_4 n) some := by kernel_rfl
theorem loopzfrFull_8 {ts : List tfrTopic.den} (hw : ∀ t ∈ ts, tfrTopic.wf t) (hl : ts.length ≤ maxLen) {i : Nat} (hi : i < ts.length) (hp : (ts[i]).2.1.length ≤ 4294967296) (acc : List Nd) (th : Int) (a' b' : Int) (z' : Bool) (x' : List Int) (l' : List Nd) : ∀ (k j : Nat) (o : List Nd), (ts[i]).2.1.length < j + k → j ≤ (ts[i]).2.1.length → o.length ≤ j →
    itzfrFull_8 k acc i o j th ts a' b' z' x' l' = some (.ret ((), ((acc, ((i : Int), (o ++ ((ts[i]).2.1.drop j).map spfrF, ()))), ((th, (ts, ())), ((a', (b', (z', (x', (l', ()))))), ()))))) := by
  intro k
  induction k with
  | zero => intro j o h1 h2; omega
  | succ k ih =>
    intro j o h1 h2 h3
    rw [slzfrFull_8]
    unfold stepzfrFull_8
    refine (bif_true (by simp; omega) _ _).trans ?_
    have hti := hw _ (List.getElem_mem hi)
    simp only [Int.toNat_natCast, getD_lt hi]
    generalize ts[i] = t at hp h1 h2 ih hti ⊢
    by_cases hj : j < t.2.1.length
    · refine (bif_true (decide_eq_true (show (j : Int) < (t.2.1.length : Int) by omega)) _ _).trans ?_
      refine (bif_true (by simp; omega) _ _).trans ?_
      refine (bif_true (by simp; omega) _ _).trans ?_
      refine (bif_true (decide_eq_true (show o.length + 1 ≤ 4294967296 by omega)) _ _).trans ?_
      have hpw := hti.2.1.2 _ (List.getElem_mem hj)
      have ih' := ih (j + 1) (o ++ [spfrF t.2.1[j]]) (by omega) (by omega) (by simp; omega)
      have hd : t.2.1.drop j = t.2.1[j] :: t.2.1.drop (j + 1) := List.drop_eq_getElem_cons hj
      rw [hd, wrap_i64 (n := (j : Int) + 1) (by omega) (by omega)]
      have hgp : List.getD t.2.1 ((j : Int)).toNat tfrPart.zero = t.2.1[j] := by simp only [Int.toNat_natCast]; exact getD_lt hj

      refine Eq.trans ?_ (ih'.trans ?_)
      · refine congrArg (fun x => itzfrFull_8 k acc i (o ++ [x]) _ th ts a' b' z' x' l') ?_
        show ndRow [ndNum 3 (IntKind.i64.wrap (List.getD t.2.1 ((j : Int)).toNat tfrPart.zero).1), ndNum 2 (IntKind.i64.wrap (List.getD t.2.1 ((j : Int)).toNat tfrPart.zero).2.1), ndNum 4 (List.getD t.2.1 ((j : Int)).toNat tfrPart.zero).2.2.1, ndNum 4 (List.getD t.2.1 ((j : Int)).toNat tfrPart.zero).2.2.2.1, ndNum 4 (List.getD t.2.1 ((j : Int)).toNat tfrPart.zero).2.2.2.2.1, ndNBytes (List.getD t.2.1 ((j : Int)).toNat tfrPart.zero).2.2.2.2.2.1] = _
        rw [hgp]
        exact spfrF_eq hpw
      · simp only [List.map_cons, List.append_assoc, List.singleton_append]
    · refine (bif_false (decide_eq_false (show ¬ (j : Int) < (t.2.1.length : Int) by omega)) _ _).trans ?_
      rw [List.drop_of_length_le (by omega)]
      simp
theorem loopzfrFull_4 {ts : List tfrTopic.den} (hw : ∀ t ∈ ts, tfrTopic.wf t) (hl : ts.length ≤ maxLen) (hs : spfrLens ts = true) (th : Int) (a' b' : Int) (z' : Bool) (x' : List Int) (l' : List Nd) : ∀ (k j : Nat) (o : List Nd), ts.length < j + k → j ≤ ts.length → o.length ≤ j →
    itzfrFull_4 k o j th ts a' b' z' x' l' = some (.ret ((), ((o ++ (ts.drop j).map spfrFT, ()), ((th, (ts, ())), ((a', (b', (z', (x', (l', ()))))), ()))))) := by
  intro k
  have hs1 := (Bool.and_eq_true _ _ ▸ hs).1
  have hs2 := (Bool.and_eq_true _ _ ▸ hs).2
  have hs1 : ts.length ≤ 4294967296 := of_decide_eq_true hs1
  induction k with
  | zero => intro j o h1 h2; omega
  | succ k ih =>
    intro j o h1 h2 h3
    rw [slzfrFull_4]
    unfold stepzfrFull_4
    by_cases hj : j < ts.length
    · refine (bif_true (decide_eq_true (show (j : Int) < (ts.length : Int) by omega)) _ _).trans ?_
      have hgp : ts.getD ((j : Int)).toNat tfrTopic.zero = ts[j] := by simp only [Int.toNat_natCast]; exact getD_lt hj
      have hpl : (ts[j]).2.1.length ≤ 4294967296 := of_decide_eq_true (List.all_eq_true.1 hs2 _ (List.getElem_mem hj))
      have c8 : ((decide ((0 : Int) ≤ (j : Int)) && decide ((j : Int) < (ts.length : Int))) && ((decide (([] : List Nd).length = 0) && decide ((0 : Int) = 0)) && decide ((ts.getD ((j : Int)).toNat tfrTopic.zero).2.1.length ≤ 4294967296))) = true := by
        rw [hgp]; simp; omega
      refine (bif_true c8 _ _).trans ?_
      refine (bif_true (by simp; omega) _ _).trans ?_
      refine (bif_true (decide_eq_true (show o.length + 1 ≤ 4294967296 by omega)) _ _).trans ?_
      rw [wrap_i64 (n := (j : Int) + 1) (by omega) (by omega)]
      have ih' := ih (j + 1) (o ++ [spfrFT ts[j]]) (by omega) (by omega) (by simp; omega)
      have hd : ts.drop j = ts[j] :: ts.drop (j + 1) := List.drop_eq_getElem_cons hj
      rw [hd]
      refine Eq.trans ?_ (ih'.trans ?_)
      · refine congrArg (fun x => itzfrFull_4 k (o ++ [x]) _ th ts a' b' z' x' l') ?_
        show (ndRow [ndText (ts.getD ((j : Int)).toNat tfrTopic.zero).1, ndRows ((ts.getD ((j : Int)).toNat tfrTopic.zero).2.1.map spfrF)]) = _
        rw [hgp]; rfl
      · simp only [List.map_cons, List.append_assoc, List.singleton_append]
    · refine (bif_false (decide_eq_false (show ¬ (j : Int) < (ts.length : Int) by omega)) _ _).trans ?_
      rw [List.drop_of_length_le (by omega)]
      simp
def bodyzfrFull (a0 : Int) (a1 : List tfrTopic.den) : Option iozfrFull.Res := (FzfrFull_4 (([], (0, ())), ((a0, (a1, ())), ((0, (0, (false, ([], ([], ()))))), ())))).run fun y => match y with | .ret ((), ((x70, ()), (x71, x72, ()), (x73, x74, x75, x76, x77, ()), ())) => (some (Out.ret ((Tre.mk (10, 0, false, [], ()) [Tre.mk (3, IntKind.i64.wrap x71, false, [], ()) [], Tre.mk (9, 0, false, [], ()) x70], ()), ())))
theorem runzfrFull (a0 : Int) (a1 : List tfrTopic.den) : Io.run tt hdzfrFull dr lpzfrFull iozfrFull Go.Proofs.Tryz.f103 (((a0, a1, ()), ()), ()) = bodyzfrFull a0 a1 := by kernel_rfl
theorem okzfrFull : HcOk prog 103 (ioHd iozfrFull FzfrFull) := by
  refine fn_sound (n := 400) hm (cs := cszfrFull) (.cons oktNum (.cons oktRow (.cons oktText (.cons oktRows (.cons oktNBytes .nil))))) (lp := lpzfrFull) (fn := Go.Proofs.Tryz.f103) (by kernel_rfl) (by kernel_rfl) (by kernel_rfl) iozfrFull (.step (h0 := loHd lozfrFull_4 FzfrFull_4) (by kernel_rfl) (loop_sound (n := 400) hm (cs := cszfrFull) (.cons oktNum (.cons oktRow (.cons oktText (.cons oktRows (.cons oktNBytes .nil))))) (lp := lpzfrFull) (fn := Go.Proofs.Tryz.f103) (.step (h0 := loHd lozfrFull_8 FzfrFull_8) (by kernel_rfl) (loop_sound (n := 400) hm (cs := cszfrFull) (.cons oktNum (.cons oktRow (.cons oktText (.cons oktRows (.cons oktNBytes .nil))))) (lp := lpzfrFull) (fn := Go.Proofs.Tryz.f103) (.done (by kernel_rfl)) lozfrFull_8 FzfrFull_8 ?_) (.done (by kernel_rfl))) lozfrFull_4 FzfrFull_4 ?_) (.done (by kernel_rfl))) FzfrFull ?_
  · rintro ⟨⟨(acc : List Nd), (i : Int), (o : List Nd), (j : Int), ⟨⟩⟩, ⟨⟨(th : Int), (ts : List tfrTopic.den), ⟨⟩⟩, ⟨(a' : Int), (b' : Int), (z' : Bool), (x' : List Int), (l' : List Nd), ⟨⟩⟩, ⟨⟩⟩⟩ y hw hy
    obtain ⟨hg, hy⟩ := Tr.guard hy
    simp only [Bool.and_eq_true, decide_eq_true_eq] at hg
    obtain ⟨⟨h1, h2⟩, ⟨h3, h4⟩, h5⟩ := hg
    have h1 : 0 ≤ i := h1
    have h2 : i < (ts.length : Int) := h2
    have h3 : o = [] := List.eq_nil_of_length_eq_zero h3
    have h4 : j = 0 := h4
    obtain ⟨i, rfl⟩ := toNat_of h1
    subst h3
    subst h4
    have hi : i < ts.length := by omega
    have hgp : ts.getD ((i : Int)).toNat tfrTopic.zero = ts[i] := by simp only [Int.toNat_natCast]; exact getD_lt hi
    have h5 : (ts.getD ((i : Int)).toNat tfrTopic.zero).2.1.length ≤ 4294967296 := h5
    rw [hgp] at h5
    have hwt : ts.length ≤ maxLen ∧ ∀ t ∈ ts, tfrTopic.wf t := by have := hw.2.1.2.1; exact this
    refine ⟨(ts[i]).2.1.length + 1, (loopzfrFull_8 hwt.2 hwt.1 hi h5 acc th a' b' z' x' l' ((ts[i]).2.1.length + 1) 0 [] (by omega) (by omega) (by simp)).trans ?_⟩
    rw [← hy, ← hgp, List.drop_zero]
    rfl
  · rintro ⟨⟨(o : List Nd), (j : Int), ⟨⟩⟩, ⟨⟨(th : Int), (ts : List tfrTopic.den), ⟨⟩⟩, ⟨(a' : Int), (b' : Int), (z' : Bool), (x' : List Int), (l' : List Nd), ⟨⟩⟩, ⟨⟩⟩⟩ y hw hy
    obtain ⟨hg, hy⟩ := Tr.guard hy
    simp only [Bool.and_eq_true, decide_eq_true_eq] at hg
    obtain ⟨⟨h3, h4⟩, h5⟩ := hg
    have h3 : o = [] := List.eq_nil_of_length_eq_zero h3
    have h4 : j = 0 := h4
    have h5 : spfrLens ts = true := h5
    subst h3
    subst h4
    have hwt : ts.length ≤ maxLen ∧ ∀ t ∈ ts, tfrTopic.wf t := by have := hw.2.1.2.1; exact this
    refine ⟨ts.length + 1, (loopzfrFull_4 hwt.2 hwt.1 h5 th a' b' z' x' l' (ts.length + 1) 0 [] (by omega) (by omega) (by simp)).trans ?_⟩
    rw [← hy, List.drop_zero]
    rfl
  · rintro ⟨⟨⟨(th : Int), (ts : List tfrTopic.den), ⟨⟩⟩, ⟨⟩⟩, ⟨⟩⟩ out hw ho
    obtain ⟨hg, ho⟩ := Tr.guard ho
    have hg : spfrLens ts = true := hg
    cases ho
    refine (runzfrFull th ts).trans ?_
    unfold bodyzfrFull
    have c1 : ((decide (([] : List Nd).length = 0) && decide ((0 : Int) = 0)) && spfrLens ts) = true := by rw [hg]; rfl
    refine (bif_true c1 _ _).trans ?_
    show _ = some (Out.ret ((spfrFull (th, (ts, ())), ()), ()))
    unfold spfrFull
    have hth : IntKind.i64.wrap th = th := i64_i32 hw.1.1.1
    show some (Out.ret ((ndRow [ndNum 3 (IntKind.i64.wrap th), ndRows (ts.map spfrFT)], ()), ())) = _
    rw [hth]
abbrev iozfrOf : Io := ⟨[dNode], [], [], [.dat tfrMsg true false], none⟩
def FzfrOf (d : iozfrOf.In) : Tr iozfrOf.Res := .ite (decide (spWt d.1.1 ≤ 4294967296)) (.ret (.ret ((spfrOM d.1.1, ()), ()))) .no
abbrev cszfrOf : List (Nat × Hc) := [(129, ioHd iotAt FtAt), (157, ioHd iotBlobOf FtBlobOf)]
def hdzfrOf : Hd := hdT cszfrOf
abbrev lozfrOf_10 : Lo := ⟨⟨[.any, .any, .one (.ptr 2 0), .one (.ptr 3 0), .one (.hol (.sl 98 tNode)), .one (.hol (.int IntKind.i64)), .one (.ptr 6 0), .one (.hol (.sl 98 tNode)), .one (.hol (.int IntKind.i64)), .any, .any, .any, .any, .any, .any, .any, .any, .any, .any, .any, .any, .any, .any, .any, .any, .any, .any, .any, .any, .any, .any, .any, .any, .any, .any, .any, .any, .any, .any, .any, .any, .any, .any, .any, .any, .any, .any, .any, .any, .any, .any, .any, .any, .any, .any, .any, .any, .any, .any, .any, .any, .any, .any, .any, .any, .any, .any, .any, .any, .any, .any, .any, .any, .any, .any, .any, .any, .any, .any, .any, .any, .any, .any, .any, .any, .any], [none, none, some [.hol (.int IntKind.i32), .onl 169 tfrTopic 1028], some [.hol (.int IntKind.i32), .onl 169 tfrTopic 1540], none, none, some [.hol .str, .onl 173 tfrPart 3076]]⟩, [(.exit 2, ⟨[.any, .any, .one (.ptr 2 0), .one (.ptr 3 0), .one (.hol (.sl 98 tNode)), .one (.hol (.int IntKind.i64)), .one (.ptr 6 0), .any, .any, .any, .any, .any, .any, .any, .any, .any, .any, .any, .any, .any, .any, .any, .any, .any, .any, .any, .any, .any, .any, .any, .any, .any, .any, .any, .any, .any, .any, .any, .any, .any, .any, .any, .any, .any, .any, .any, .any, .any, .any, .any, .any, .any, .any, .any, .any, .any, .any, .any, .any, .any, .any, .any, .any, .any, .any, .any, .any, .any, .any, .any, .any, .any, .any, .any, .any, .any, .any, .any, .any, .any, .any, .any, .any, .any, .any, .any], [none, none, some [.hol (.int IntKind.i32), .onl 169 tfrTopic 1028], some [.hol (.int IntKind.i32), .onl 169 tfrTopic 1540], none, none, some [.hol .str, .onl 173 tfrPart 3076]]⟩)]⟩
-- FzfrOf_10 : lozfrOf_10.st.den → Tr (DenX lozfrOf_10.xs) | ((h7, (h8, (h9, (h10, ())))), ((h11, (h12, ())), ((h13, (h14, ())), ((h15, (h16, ())), ()))))
abbrev lozfrOf_5 : Lo := ⟨⟨[.any, .any, .one (.ptr 2 0), .one (.ptr 3 0), .one (.hol (.sl 98 tNode)), .one (.hol (.int IntKind.i64)), .any, .any, .any, .any, .any, .any, .any, .any, .any, .any, .any, .any, .any, .any, .any, .any, .any, .any, .any, .any, .any, .any, .any, .any, .any, .any, .any, .any, .any, .any, .any, .any, .any, .any, .any, .any, .any, .any, .any, .any, .any, .any, .any, .any, .any, .any, .any, .any, .any, .any, .any, .any, .any, .any, .any, .any, .any, .any, .any, .any, .any, .any, .any, .any, .any, .any, .any, .any, .any, .any, .any, .any, .any, .any, .any, .any, .any, .any, .any, .any], [none, none, some [.hol (.int IntKind.i32), .onl 169 tfrTopic 1028], some [.hol (.int IntKind.i32), .onl 169 tfrTopic 1540]]⟩, [(.exit 0, ⟨[.any, .any, .one (.ptr 2 0), .one (.ptr 3 0), .any, .any, .any, .any, .any, .any, .any, .any, .any, .any, .any, .any, .any, .any, .any, .any, .any, .any, .any, .any, .any, .any, .any, .any, .any, .any, .any, .any, .any, .any, .any, .any, .any, .any, .any, .any, .any, .any, .any, .any, .any, .any, .any, .any, .any, .any, .any, .any, .any, .any, .any, .any, .any, .any, .any, .any, .any, .any, .any, .any, .any, .any, .any, .any, .any, .any, .any, .any, .any, .any, .any, .any, .any, .any, .any, .any, .any, .any, .any, .any, .any, .any], [none, none, some [.hol (.int IntKind.i32), .onl 169 tfrTopic 1028], some [.hol (.int IntKind.i32), .onl 169 tfrTopic 1540]]⟩)]⟩
-- FzfrOf_5 : lozfrOf_5.st.den → Tr (DenX lozfrOf_5.xs) | ((h1, (h2, ())), ((h3, (h4, ())), ((h5, (h6, ())), ())))
def FzfrOf_10 (d : lozfrOf_10.st.den) : Tr (DenX lozfrOf_10.xs) :=
  .ite ((decide (d.1.2.2.2.1 = 0) && decide (d.2.2.2.1.2.1.length = 0)) && decide (spWts d.1.2.2.1 ≤ 4294967296))
    (.ret (.ret ((), ((d.1.1, (d.1.2.1, ())), (d.2.1, (d.2.2.1, ((d.2.2.2.1.1, (d.1.2.2.1.map spfrO, ())), ()))))))) .no
def FzfrOf_5 (d : lozfrOf_5.st.den) : Tr (DenX lozfrOf_5.xs) :=
  .ite ((decide (d.1.2.1 = 0) && decide (d.2.2.1.2.1.length = 0)) && decide (spWts d.1.1 ≤ 4294967296))
    (.ret (.ret ((), ((), (d.2.1, ((d.2.2.1.1, (d.1.1.map spfrOT, ())), ())))))) .no
def lpzfrOf : Lp := lpT [(5, loHd lozfrOf_5 FzfrOf_5), (10, loHd lozfrOf_10 FzfrOf_10)]
def stepzfrOf_10 {R : Type} (h7 : List (Nd)) (h8 : Int) (h9 : List (Nd)) (h10 : Int) (h11 : Int) (h12 : List tfrTopic.den) (h13 : Int) (h14 : List tfrTopic.den) (h15 : List Int) (h16 : List tfrPart.den) (next : List (Nd) → Int → List (Nd) → Int → Int → List tfrTopic.den → Int → List tfrTopic.den → List Int → List tfrPart.den → Option R) (out : DenX lozfrOf_10.xs → Option R) : Option R := bif decide (h10 < (↑h9.length : Int)) then bif decide (0 ≤ h10) && decide (h10 < (↑h9.length : Int)) then bif decide (List.length (spAt (Tre.mk (h9.getD h10.toNat (Tre.mk (0, 0, false, [], ()) [])).1 (h9.getD h10.toNat (Tre.mk (0, 0, false, [], ()) [])).2) 5).1.snd.snd.snd.fst ≤ 4294967296) then bif decide (h16.length + 1 ≤ 4294967296) then next (h7) (h8) (h9) (IntKind.i64.wrap (h10 + 1)) (h11) (h12) (h13) (h14) (h15) (h16 ++ [(IntKind.i32.wrap (spAt (Tre.mk (h9.getD h10.toNat (Tre.mk (0, 0, false, [], ()) [])).1 (h9.getD h10.toNat (Tre.mk (0, 0, false, [], ()) [])).2) 0).1.snd.fst, IntKind.i16.wrap (spAt (Tre.mk (h9.getD h10.toNat (Tre.mk (0, 0, false, [], ()) [])).1 (h9.getD h10.toNat (Tre.mk (0, 0, false, [], ()) [])).2) 1).1.snd.fst, (spAt (Tre.mk (h9.getD h10.toNat (Tre.mk (0, 0, false, [], ()) [])).1 (h9.getD h10.toNat (Tre.mk (0, 0, false, [], ()) [])).2) 2).1.snd.fst, (spAt (Tre.mk (h9.getD h10.toNat (Tre.mk (0, 0, false, [], ()) [])).1 (h9.getD h10.toNat (Tre.mk (0, 0, false, [], ()) [])).2) 3).1.snd.fst, (spAt (Tre.mk (h9.getD h10.toNat (Tre.mk (0, 0, false, [], ()) [])).1 (h9.getD h10.toNat (Tre.mk (0, 0, false, [], ()) [])).2) 4).1.snd.fst, (spAt (Tre.mk (h9.getD h10.toNat (Tre.mk (0, 0, false, [], ()) [])).1 (h9.getD h10.toNat (Tre.mk (0, 0, false, [], ()) [])).2) 5).1.snd.snd, ())]) else none else none else none else out (.ret ((), ((h7, (h8, ())), ((h11, (h12, ())), ((h13, (h14, ())), ((h15, (h16, ())), ()))))))
def itzfrOf_10 (n : Nat) (h7 : List (Nd)) (h8 : Int) (h9 : List (Nd)) (h10 : Int) (h11 : Int) (h12 : List tfrTopic.den) (h13 : Int) (h14 : List tfrTopic.den) (h15 : List Int) (h16 : List tfrPart.den) : Option (DenX lozfrOf_10.xs) := lpN tt hdzfrOf dr lpzfrOf 0 Go.Proofs.Tryz.f102 (subL Go.Proofs.Tryz.f102 (topL Go.Proofs.Tryz.f102 0) 0) n (lozfrOf_10.st.mk' ((h7, (h8, (h9, (h10, ())))), ((h11, (h12, ())), ((h13, (h14, ())), ((h15, (h16, ())), ()))))) (decX lozfrOf_10.xs)
theorem slzfrOf_10 (n : Nat) (h7 : List (Nd)) (h8 : Int) (h9 : List (Nd)) (h10 : Int) (h11 : Int) (h12 : List tfrTopic.den) (h13 : Int) (h14 : List tfrTopic.den) (h15 : List Int) (h16 : List tfrPart.den) : itzfrOf_10 (n + 1) h7 h8 h9 h10 h11 h12 h13 h14 h15 h16 = stepzfrOf_10 h7 h8 h9 h10 h11 h12 h13 h14 h15 h16 (itzfrOf_10 n) some := by kernel_rfl
def stepzfrOf_5 {R : Type} (h1 : List (Nd)) (h2 : Int) (h3 : Int) (h4 : List tfrTopic.den) (h5 : Int) (h6 : List tfrTopic.den) (next : List (Nd) → Int → Int → List tfrTopic.den → Int → List tfrTopic.den → Option R) (out : DenX lozfrOf_5.xs → Option R) : Option R := bif decide (h2 < (↑h1.length : Int)) then bif decide (0 ≤ h2) && decide (h2 < (↑h1.length : Int)) then bif decide (0 ≤ h2) && decide (h2 < (↑h1.length : Int)) then (FzfrOf_10 ((h1, (h2, ((spAt (Tre.mk (h1.getD h2.toNat (Tre.mk (0, 0, false, [], ()) [])).1 (h1.getD h2.toNat (Tre.mk (0, 0, false, [], ()) [])).2) 1).2, (0, ())))), ((h3, (h4, ())), ((h5, (h6, ())), (((spAt (Tre.mk (h1.getD h2.toNat (Tre.mk (0, 0, false, [], ()) [])).1 (h1.getD h2.toNat (Tre.mk (0, 0, false, [], ()) [])).2) 0).1.snd.snd.snd.fst, ([], ())), ()))))).run fun y => match y with | .ret ((), ((x35, x36, ()), (x37, x38, ()), (x39, x40, ()), (x41, x42, ()), ())) => (bif decide (x40.length + 1 ≤ 4294967296) then next (x35) (IntKind.i64.wrap (x36 + 1)) (x37) (x38) (x39) (x40 ++ [(x41, x42, ())]) else none) else none else none else out (.ret ((), ((), ((h3, (h4, ())), ((h5, (h6, ())), ())))))
def itzfrOf_5 (n : Nat) (h1 : List (Nd)) (h2 : Int) (h3 : Int) (h4 : List tfrTopic.den) (h5 : Int) (h6 : List tfrTopic.den) : Option (DenX lozfrOf_5.xs) := lpN tt hdzfrOf dr lpzfrOf 0 Go.Proofs.Tryz.f102 (topL Go.Proofs.Tryz.f102 0) n (lozfrOf_5.st.mk' ((h1, (h2, ())), ((h3, (h4, ())), ((h5, (h6, ())), ())))) (decX lozfrOf_5.xs)
theorem slzfrOf_5 (n : Nat) (h1 : List (Nd)) (h2 : Int) (h3 : Int) (h4 : List tfrTopic.den) (h5 : Int) (h6 : List tfrTopic.den) : itzfrOf_5 (n + 1) h1 h2 h3 h4 h5 h6 = stepzfrOf_5 h1 h2 h3 h4 h5 h6 (itzfrOf_5 n) some := by kernel_rfl
theorem loopzfrOf_10 {ps : List Nd} (hb : spWts ps ≤ 4294967296) (tops : List Nd) (i : Int) (th0 : Int) (ts0 : List tfrTopic.den) (th : Int) (ts : List tfrTopic.den) (tn : List Int) : ∀ (k j : Nat) (o : List tfrPart.den), ps.length < j + k → j ≤ ps.length → o.length ≤ j →
    itzfrOf_10 k tops i ps j th0 ts0 th ts tn o = some (.ret ((), ((tops, (i, ())), ((th0, (ts0, ())), ((th, (ts, ())), ((tn, (o ++ (ps.drop j).map spfrO, ())), ())))))) := by
  intro k
  have hlen := spWts_len ps
  induction k with
  | zero => intro j o h1 h2; omega
  | succ k ih =>
    intro j o h1 h2 h3
    rw [slzfrOf_10]
    unfold stepzfrOf_10
    by_cases hj : j < ps.length
    · refine (bif_true (decide_eq_true (show (j : Int) < (ps.length : Int) by omega)) _ _).trans ?_
      have hmem := spWt_mem (List.getElem_mem hj)
      have ih' := ih (j + 1) (o ++ [spfrO ps[j]]) (by omega) (by omega) (by simp; omega)
      have hd : ps.drop j = ps[j] :: ps.drop (j + 1) := List.drop_eq_getElem_cons hj
      rw [hd, wrap_i64 (n := (j : Int) + 1) (by omega) (by omega)]
      simp only [Int.toNat_natCast, getD_lt hj]
      generalize ps[j] = u at hmem ih' ⊢
      obtain ⟨ul, uk⟩ := u
      refine (bif_true (by simp; omega) _ _).trans ?_
      refine (bif_true (decide_eq_true (show (spAt (Tre.mk ul uk) 5).lab.2.2.2.1.length ≤ 4294967296 by have := spAt_wt (Tre.mk ul uk) 5; have := spWt_data (spAt (Tre.mk ul uk) 5); omega)) _ _).trans ?_
      refine (bif_true (decide_eq_true (show o.length + 1 ≤ 4294967296 by omega)) _ _).trans ?_
      refine ih'.trans ?_
      simp only [List.map_cons, List.append_assoc, List.singleton_append]
    · refine (bif_false (decide_eq_false (show ¬ (j : Int) < (ps.length : Int) by omega)) _ _).trans ?_
      rw [List.drop_of_length_le (by omega)]
      simp
theorem loopzfrOf_5 {nds : List Nd} (hb : spWts nds ≤ 4294967296) (th0 : Int) (ts0 : List tfrTopic.den) (th : Int) : ∀ (k j : Nat) (ts : List tfrTopic.den), nds.length < j + k → j ≤ nds.length → ts.length ≤ j →
    itzfrOf_5 k nds j th0 ts0 th ts = some (.ret ((), ((), ((th0, (ts0, ())), ((th, (ts ++ (nds.drop j).map spfrOT, ())), ()))))) := by
  intro k
  have hlen := spWts_len nds
  induction k with
  | zero => intro j o h1 h2; omega
  | succ k ih =>
    intro j ts h1 h2 h3
    rw [slzfrOf_5]
    unfold stepzfrOf_5
    by_cases hj : j < nds.length
    · refine (bif_true (decide_eq_true (show (j : Int) < (nds.length : Int) by omega)) _ _).trans ?_
      have hmem := spWt_mem (List.getElem_mem hj)
      have ih' := ih (j + 1) (ts ++ [spfrOT nds[j]]) (by omega) (by omega) (by simp; omega)
      have hd : nds.drop j = nds[j] :: nds.drop (j + 1) := List.drop_eq_getElem_cons hj
      rw [hd]
      simp only [Int.toNat_natCast, getD_lt hj]
      generalize nds[j] = u at hmem ih' ⊢
      obtain ⟨ul, uk⟩ := u
      refine (bif_true (by simp; omega) _ _).trans ?_
      refine (bif_true (by simp; omega) _ _).trans ?_
      have hw1 := spAt_wt (Tre.mk ul uk) 1
      have hw2 := spWts_kids (spAt (Tre.mk ul uk) 1)
      have cA : ((decide ((0 : Int) = 0) && decide (([] : List tfrPart.den).length = 0)) && decide (spWts (spAt (Tre.mk ul uk) 1).kids ≤ 4294967296)) = true := by simp; omega
      refine (bif_true cA _ _).trans ?_
      refine (bif_true (decide_eq_true (show ts.length + 1 ≤ 4294967296 by omega)) _ _).trans ?_
      rw [wrap_i64 (n := (j : Int) + 1) (by omega) (by omega)]
      refine ih'.trans ?_
      simp only [List.map_cons, List.append_assoc, List.singleton_append]
    · refine (bif_false (decide_eq_false (show ¬ (j : Int) < (nds.length : Int) by omega)) _ _).trans ?_
      rw [List.drop_of_length_le (by omega)]
      simp
def bodyzfrOf (a0 : Nd) : Option iozfrOf.Res := (FzfrOf_5 (((spAt (Tre.mk a0.1 a0.2) 1).2, (0, ())), ((0, ([], ())), ((IntKind.i32.wrap (spAt (Tre.mk a0.1 a0.2) 0).1.snd.fst, ([], ())), ())))).run fun y => match y with | .ret ((), ((), (x53, x54, ()), (x55, x56, ()), ())) => (some (Out.ret (((x55, x56, ()), ()), ())))
theorem runzfrOf (a0 : Nd) : Io.run tt hdzfrOf dr lpzfrOf iozfrOf Go.Proofs.Tryz.f102 ((a0, ()), ()) = bodyzfrOf a0 := by kernel_rfl
theorem okzfrOf : HcOk prog 102 (ioHd iozfrOf FzfrOf) := by
  refine fn_sound (n := 400) hm (cs := cszfrOf) (.cons oktAt (.cons oktBlobOf .nil)) (lp := lpzfrOf) (fn := Go.Proofs.Tryz.f102) (by kernel_rfl) (by kernel_rfl) (by kernel_rfl) iozfrOf (.step (h0 := loHd lozfrOf_5 FzfrOf_5) (by kernel_rfl) (loop_sound (n := 400) hm (cs := cszfrOf) (.cons oktAt (.cons oktBlobOf .nil)) (lp := lpzfrOf) (fn := Go.Proofs.Tryz.f102) (.step (h0 := loHd lozfrOf_10 FzfrOf_10) (by kernel_rfl) (loop_sound (n := 400) hm (cs := cszfrOf) (.cons oktAt (.cons oktBlobOf .nil)) (lp := lpzfrOf) (fn := Go.Proofs.Tryz.f102) (.done (by kernel_rfl)) lozfrOf_10 FzfrOf_10 ?_) (.done (by kernel_rfl))) lozfrOf_5 FzfrOf_5 ?_) (.done (by kernel_rfl))) FzfrOf ?_
  · rintro ⟨⟨(tops : List Nd), (i : Int), (ps : List Nd), (j : Int), ⟨⟩⟩, ⟨⟨(th0 : Int), (ts0 : List tfrTopic.den), ⟨⟩⟩, ⟨(th : Int), (ts : List tfrTopic.den), ⟨⟩⟩, ⟨(tn : List Int), (o : List tfrPart.den), ⟨⟩⟩, ⟨⟩⟩⟩ y hw hy
    obtain ⟨hg, hy⟩ := Tr.guard hy
    simp only [Bool.and_eq_true, decide_eq_true_eq] at hg
    obtain ⟨⟨h1, h2⟩, h3⟩ := hg
    have h1 : j = 0 := h1
    have h2 : o = [] := List.eq_nil_of_length_eq_zero h2
    have h3 : spWts ps ≤ 4294967296 := h3
    subst h1
    subst h2
    refine ⟨ps.length + 1, (loopzfrOf_10 h3 tops i th0 ts0 th ts tn (ps.length + 1) 0 [] (by omega) (by omega) (by simp)).trans ?_⟩
    rw [← hy, List.drop_zero]
    rfl
  · rintro ⟨⟨(nds : List Nd), (j : Int), ⟨⟩⟩, ⟨⟨(th0 : Int), (ts0 : List tfrTopic.den), ⟨⟩⟩, ⟨(th : Int), (ts : List tfrTopic.den), ⟨⟩⟩, ⟨⟩⟩⟩ y hw hy
    obtain ⟨hg, hy⟩ := Tr.guard hy
    simp only [Bool.and_eq_true, decide_eq_true_eq] at hg
    obtain ⟨⟨h1, h2⟩, h3⟩ := hg
    have h1 : j = 0 := h1
    have h2 : ts = [] := List.eq_nil_of_length_eq_zero h2
    have h3 : spWts nds ≤ 4294967296 := h3
    subst h1
    subst h2
    refine ⟨nds.length + 1, (loopzfrOf_5 h3 th0 ts0 th (nds.length + 1) 0 [] (by omega) (by omega) (by simp)).trans ?_⟩
    rw [← hy, List.drop_zero]
    rfl
  · rintro ⟨⟨(n : Nd), ⟨⟩⟩, ⟨⟩⟩ out hw ho
    obtain ⟨hg, ho⟩ := Tr.guard ho
    have hg : spWt n ≤ 4294967296 := of_decide_eq_true hg
    cases ho
    refine (runzfrOf n).trans ?_
    unfold bodyzfrOf
    obtain ⟨nl, nk⟩ := n
    have hw1 := spAt_wt (Tre.mk nl nk) 1
    have hw2 := spWts_kids (spAt (Tre.mk nl nk) 1)
    have c1 : ((decide ((0 : Int) = 0) && decide (([] : List tfrTopic.den).length = 0)) && decide (spWts (spAt (Tre.mk nl nk) 1).kids ≤ 4294967296)) = true := by simp; omega
    refine (bif_true c1 _ _).trans ?_
    show _ = some (Out.ret ((spfrOM (Tre.mk nl nk), ()), ()))
    unfold spfrOM
    rfl
abbrev iozfrTwin : Io := ⟨[.dat tfrMsg true false], [], [], [.dat tfrMsg true false], none⟩
def FzfrTwin (d : iozfrTwin.In) : Tr iozfrTwin.Res := .ite (spfrLens d.1.1.2.1 && decide (spWt (spfrFull d.1.1) ≤ 4294967296)) (.ret (.ret ((d.1.1, ()), ()))) .no
abbrev cszfrTwin : List (Nat × Hc) := [(103, ioHd iozfrFull FzfrFull), (51, ioHd iotTwin FtTwin), (102, ioHd iozfrOf FzfrOf)]
def hdzfrTwin : Hd := hdT cszfrTwin
def lpzfrTwin : Lp := lpT []
def bodyzfrTwin (a0 : Int) (a1 : List tfrTopic.den) : Option iozfrTwin.Res := bif spfrLens a1 then bif decide (spWt (Tre.mk (spfrFull (a0, a1, ())).1 (spfrFull (a0, a1, ())).2) ≤ 4294967296) then bif decide (spWt (Tre.mk (spfrFull (a0, a1, ())).1 (spfrFull (a0, a1, ())).2) ≤ 4294967296) then some (Out.ret ((spfrOM (Tre.mk (spfrFull (a0, a1, ())).1 (spfrFull (a0, a1, ())).2), ()), ())) else none else none else none
theorem runzfrTwin (a0 : Int) (a1 : List tfrTopic.den) : Io.run tt hdzfrTwin dr lpzfrTwin iozfrTwin Go.Proofs.Tryz.f35 (((a0, a1, ()), ()), ()) = bodyzfrTwin a0 a1 := by kernel_rfl
theorem okzfrTwin : HcOk prog 35 (ioHd iozfrTwin FzfrTwin) := by
  refine fn_sound (n := 400) hm (cs := cszfrTwin) (.cons okzfrFull (.cons oktTwin (.cons okzfrOf .nil))) (lp := lpzfrTwin) (fn := Go.Proofs.Tryz.f35) (by kernel_rfl) (by kernel_rfl) (by kernel_rfl) iozfrTwin (.done (by kernel_rfl)) FzfrTwin ?_
  rintro ⟨⟨m, ⟨⟩⟩, ⟨⟩⟩ out hw ho
  obtain ⟨hg, ho⟩ := Tr.guard ho
  simp only [Bool.and_eq_true, decide_eq_true_eq] at hg
  obtain ⟨h1, h2⟩ := hg
  have h1 : spfrLens m.2.1 = true := h1
  have h2 : spWt (spfrFull m) ≤ 4294967296 := h2
  cases ho
  have hf := spfrOM_full (m := m) hw.1.1
  obtain ⟨th, ts, ⟨⟩⟩ := m
  refine (runzfrTwin th ts).trans ?_
  unfold bodyzfrTwin
  generalize spfrFull (th, (ts, ())) = n at h2 hf ⊢
  obtain ⟨nl, nk⟩ := n
  refine (bif_true h1 _ _).trans ?_
  refine (bif_true (decide_eq_true h2) _ _).trans ?_
  refine (bif_true (decide_eq_true h2) _ _).trans ?_
  exact congrArg (fun x => some (Out.ret ((x, ()), ()))) hf
abbrev iozfrAlike : Io := ⟨[.dat tfrMsg true false, .dat tfrMsg true false], [], [], [dB], none⟩
def FzfrAlike (d : iozfrAlike.In) : Tr iozfrAlike.Res := .ite (spfrLens d.1.1.2.1 && spfrLens d.1.2.1.2.1) (.ret (.ret ((spEqT d.1.1 d.1.2.1, ()), ()))) .no
abbrev cszfrAlike : List (Nat × Hc) := [(103, ioHd iozfrFull FzfrFull), (66, ioHd iotAlike FtAlike)]
def hdzfrAlike : Hd := hdT cszfrAlike
def lpzfrAlike : Lp := lpT []
def bodyzfrAlike (a0 : Int) (a1 : List tfrTopic.den) (a2 : Int) (a3 : List tfrTopic.den) : Option iozfrAlike.Res := bif spfrLens a1 then bif spfrLens a3 then some (Out.ret ((spEqN (Tre.mk (spfrFull (a0, a1, ())).1 (spfrFull (a0, a1, ())).2) (Tre.mk (spfrFull (a2, a3, ())).1 (spfrFull (a2, a3, ())).2), ()), ())) else none else none
theorem runzfrAlike (a0 : Int) (a1 : List tfrTopic.den) (a2 : Int) (a3 : List tfrTopic.den) : Io.run tt hdzfrAlike dr lpzfrAlike iozfrAlike Go.Proofs.Tryz.f38 (((a0, a1, ()), (a2, a3, ()), ()), ()) = bodyzfrAlike a0 a1 a2 a3 := by kernel_rfl
theorem okzfrAlike : HcOk prog 38 (ioHd iozfrAlike FzfrAlike) := by
  refine fn_sound (n := 400) hm (cs := cszfrAlike) (.cons okzfrFull (.cons oktAlike .nil)) (lp := lpzfrAlike) (fn := Go.Proofs.Tryz.f38) (by kernel_rfl) (by kernel_rfl) (by kernel_rfl) iozfrAlike (.done (by kernel_rfl)) FzfrAlike ?_
  rintro ⟨⟨a, b, ⟨⟩⟩, ⟨⟩⟩ out hw ho
  obtain ⟨hg, ho⟩ := Tr.guard ho
  simp only [Bool.and_eq_true] at hg
  obtain ⟨h1, h2⟩ := hg
  have h1 : spfrLens a.2.1 = true := h1
  have h2 : spfrLens b.2.1 = true := h2
  cases ho
  have hf := spfrOM_full (m := a) hw.1.1
  have hf' := spfrOM_full (m := b) hw.1.2.1
  have key : spEqN (spfrFull a) (spfrFull b) = spEqT a b := by
    rw [Bool.eq_iff_iff, spEqN_iff, spEqT_iff]
    exact ⟨fun h => by rw [← hf, ← hf', h], fun h => by rw [h]⟩
  obtain ⟨thA, tsA, ⟨⟩⟩ := a
  obtain ⟨thB, tsB, ⟨⟩⟩ := b
  refine (runzfrAlike thA tsA thB tsB).trans ?_
  unfold bodyzfrAlike
  generalize spfrFull (thA, (tsA, ())) = n at key ⊢
  generalize spfrFull (thB, (tsB, ())) = n' at key ⊢
  obtain ⟨nl, nk⟩ := n
  obtain ⟨nl', nk'⟩ := n'
  refine (bif_true h1 _ _).trans ?_
  refine (bif_true h2 _ _).trans ?_
  exact congrArg (fun x => some (Out.ret ((x, ()), ()))) key
abbrev iozfrEnc : Io := ⟨[dI, .dat tfrMsg true false], [], [], [dL, dI], none⟩
@[irreducible] noncomputable def spfrW (v : Int) (m : tfrMsg.den) : List Int × Int := spEW 1 true v (spfrFull m)
def FzfrEnc (d : iozfrEnc.In) : Tr iozfrEnc.Res := .ite (spfrLens d.1.2.1.2.1 && decide (8 * spWt (spfrFull d.1.2.1) ≤ 4294967296)) (.ret (.ret (((spfrW d.1.1 d.1.2.1).1, ((spfrW d.1.1 d.1.2.1).2, ())), ()))) .no
abbrev cszfrEnc : List (Nat × Hc) := [(103, ioHd iozfrFull FzfrFull), (53, ioHd iotbEW FtbEW)]
def hdzfrEnc : Hd := hdT cszfrEnc
def lpzfrEnc : Lp := lpT []
def bodyzfrEnc (a0 : Int) (a1 : Int) (a2 : List tfrTopic.den) : Option iozfrEnc.Res := bif spfrLens a2 then bif decide (8 * spWt (Tre.mk (spfrFull (a1, a2, ())).1 (spfrFull (a1, a2, ())).2) ≤ 4294967296) then some (Out.ret (((spEW 1 true a0 (Tre.mk (spfrFull (a1, a2, ())).1 (spfrFull (a1, a2, ())).2)).fst, (spEW 1 true a0 (Tre.mk (spfrFull (a1, a2, ())).1 (spfrFull (a1, a2, ())).2)).snd, ()), ())) else none else none
theorem runzfrEnc (a0 : Int) (a1 : Int) (a2 : List tfrTopic.den) : Io.run tt hdzfrEnc dr lpzfrEnc iozfrEnc Go.Proofs.Tryz.f36 ((a0, (a1, a2, ()), ()), ()) = bodyzfrEnc a0 a1 a2 := by kernel_rfl
theorem okzfrEnc : HcOk prog 36 (ioHd iozfrEnc FzfrEnc) := by
  refine fn_sound (n := 400) hm (cs := cszfrEnc) (.cons okzfrFull (.cons oktbEW .nil)) (lp := lpzfrEnc) (fn := Go.Proofs.Tryz.f36) (by kernel_rfl) (by kernel_rfl) (by kernel_rfl) iozfrEnc (.done (by kernel_rfl)) FzfrEnc ?_
  rintro ⟨⟨(v : Int), m, ⟨⟩⟩, ⟨⟩⟩ out hw ho
  obtain ⟨hg, ho⟩ := Tr.guard ho
  simp only [Bool.and_eq_true, decide_eq_true_eq] at hg
  obtain ⟨h1, h2⟩ := hg
  have h1 : spfrLens m.2.1 = true := h1
  have h2 : 8 * spWt (spfrFull m) ≤ 4294967296 := h2
  cases ho
  show _ = some (Out.ret (((spfrW v m).1, ((spfrW v m).2, ())), ()))
  unfold spfrW
  obtain ⟨th, ts, ⟨⟩⟩ := m
  refine (runzfrEnc v th ts).trans ?_
  unfold bodyzfrEnc
  generalize spfrFull (th, (ts, ())) = n at h2 ⊢
  obtain ⟨nl, nk⟩ := n
  refine (bif_true h1 _ _).trans ?_
  exact bif_true (decide_eq_true h2) _ _
end
end Go.Proofs.YtjpeefegeobgfaaGreat.Sym
namespace Go.Proofs.YtjpeefegeobgfaaGreat.Sym
open Go
set_option linter.unusedSimpArgs false
set_option linter.unusedVariables false
noncomputable section
def wfrP (v : Int) (p : tfrPart.den) : List Int × Int := spSeq (spBE p.1 4, 0) (spSeq (spBE p.2.1 2, 0) (spSeq (spBE p.2.2.1 8, 0) (spSeq (if 2 ≤ v ∧ v ≤ 3 then (spBE p.2.2.2.1 8, 0) else ([], 0)) (spSeq (if 3 ≤ v ∧ v ≤ 3 then (spBE p.2.2.2.2.1 8, 0) else ([], 0)) (spSeq (spBlo p.2.2.2.2.2.1) (([], 0)))))))
def wfrT (v : Int) (t : tfrTopic.den) : List Int × Int := spSeq (spTxt t.1) (spSeq (spArrW (wfrP v) t.2.1) ([], 0))
def wfrM (v : Int) (m : tfrMsg.den) : List Int × Int := spSeq (if 1 ≤ v ∧ v ≤ 3 then (spBE m.1 4, 0) else ([], 0)) (spSeq (spArrW (wfrT v) m.2.1) (([], 0)))
theorem Wri.frP (v : Int) (p : tfrPart.den) (h : frOk p = true) : Wri (wfrP v p) (spfrPE v p) := (Wri.put p.1 4).seq ((Wri.put p.2.1 2).seq ((Wri.put p.2.2.1 8).seq ((Wri.hasE v 2 3 p.2.2.2.1 8).seq ((Wri.hasE v 3 3 p.2.2.2.2.1 8).seq ((Wri.blob p.2.2.2.2.2.1 (of_decide_eq_true h)).seq (Wri.nop))))))
theorem Wri.frT (v : Int) (t : tfrTopic.den) (h : frOkT t = true) : Wri (wfrT v t) (spfrTE v t) := (Wri.str _).seq ((Wri.items fun p hp => Wri.frP v p (List.all_eq_true.1 h p hp)).seq Wri.nop)
abbrev ffrP : Fd := fld [112, 97, 114, 116] 10 0 3 [fld [105, 110, 100, 101, 120] 3 0 3 [], fld [99, 111, 100, 101] 2 0 3 [], fld [104, 105, 103, 104] 4 0 3 [], fld [115, 116, 97, 98, 108, 101] 4 2 3 [], fld [115, 116, 97, 114, 116] 4 3 3 [], fld [114, 101, 99, 115] 8 0 3 []]
abbrev ffrT : Fd := fld [116, 111, 112, 105, 99] 10 0 3 [fld [110, 97, 109, 101] 5 0 3 [], fld [112, 97, 114, 116, 115] 9 0 3 [ffrP]]
theorem spW_frP {v : Int} {p : tfrPart.den} (hv : 0 ≤ v ∧ v ≤ 3) (h : tfrPart.wf p) : spW ffrP v (spfrF p) = wfrP v p := by
  unfold spfrF wfrP
  rw [spW_row, spWZ_has (spHas_in hv.1 hv.2), spWZ_has (spHas_in hv.1 hv.2), spWZ_has (spHas_in hv.1 hv.2), spWZ_o, spWZ_o, spWZ_has (spHas_in hv.1 hv.2), spWZip_nl, spW_num (by decide) (w := 4) rfl (spFits_i32 h.1), spW_num (by decide) (w := 2) rfl (spFits_i16 h.2.1), spW_num (by decide) (w := 8) rfl (spFits_i64 p.2.2.1), spW_num (by decide) (w := 8) rfl (spFits_i64 p.2.2.2.1), spW_num (by decide) (w := 8) rfl (spFits_i64 p.2.2.2.2.1), spW_nbytes]
  try rfl
theorem spW_frT {v : Int} {t : tfrTopic.den} (hv : 0 ≤ v ∧ v ≤ 3) (h : tfrTopic.wf t) : spW ffrT v (spfrFT t) = wfrT v t := by
  unfold spfrFT wfrT
  rw [spW_row, spWZ_has (spHas_in hv.1 hv.2), spWZ_has (spHas_in hv.1 hv.2), spWZip_nl, spW_text, spW_rows, spArrW_congr fun p hp => spW_frP hv (h.2.1.2 p hp)]
def okfrP (v : Int) (p : tfrPart.den) : Bool := (if 2 ≤ v ∧ v ≤ 3 then true else (p.2.2.2.1 == 0)) && ((if 3 ≤ v ∧ v ≤ 3 then true else (p.2.2.2.2.1 == 0)))
theorem spCut_frP {v : Int} {p : tfrPart.den} (hv : 0 ≤ v ∧ v ≤ 3) : (spCut ffrP v (spfrF p)).2 = okfrP v p := by
  unfold spfrF okfrP
  rw [spCut_row, spCZ_has (spHas_in hv.1 hv.2), spCZ_has (spHas_in hv.1 hv.2), spCZ_has (spHas_in hv.1 hv.2), spCZ_opt, spCZ_opt, spCZ_has (spHas_in hv.1 hv.2), spCZ_nil, spCut_leaf (by decide) (by decide), spCut_leaf (by decide) (by decide), spCut_leaf (by decide) (by decide), spCut_leaf (by decide) (by decide), spCut_leaf (by decide) (by decide), spCut_leaf (by decide) (by decide), spZero_num, spZero_num]
  simp only [Bool.true_and, Bool.and_true]
theorem spCut_frT {v : Int} {t : tfrTopic.den} (hv : 0 ≤ v ∧ v ≤ 3) : (spCut ffrT v (spfrFT t)).2 = t.2.1.all (okfrP v) := by
  unfold spfrFT
  rw [spCut_row, spCZ_has (spHas_in hv.1 hv.2), spCZ_has (spHas_in hv.1 hv.2), spCZ_nil, spCut_leaf (by decide) (by decide), spCut_rows]
  simp only [spCut_frP hv, Bool.true_and, Bool.and_true]
theorem spWhole_fr (m : tfrMsg.den) : spWholeZ spT1p [ndNum 3 m.1, ndRows (m.2.1.map spfrFT)] := by
  unfold spT1p spTopics
  refine spWhole_cons (spWhole_leaf (by decide) (by decide)) (spWhole_cons ?_ spWhole_nil)
  refine spWhole_rows _ _ fun t => spWhole_row rfl (spWhole_cons (spWhole_leaf (by decide) (by decide)) (spWhole_cons ?_ spWhole_nil))
  exact spWhole_rows _ _ fun p => spWhole_row rfl (spWhole_cons (spWhole_leaf (by decide) (by decide)) (spWhole_cons (spWhole_leaf (by decide) (by decide)) (spWhole_cons (spWhole_leaf (by decide) (by decide)) (spWhole_cons (spWhole_leaf (by decide) (by decide)) (spWhole_cons (spWhole_leaf (by decide) (by decide)) (spWhole_cons (spWhole_leaf (by decide) (by decide)) spWhole_nil))))))
def okfrM (v : Int) (m : tfrMsg.den) : Bool := (if 1 ≤ v ∧ v ≤ 3 then true else (m.1 == 0)) && ((m.2.1.all fun t => t.2.1.all (okfrP v)))
theorem spfrLP_lk {e v : Int} {p : tfrPart.den} : spfrLP v p (e, (false, ([] : List Int))) = (spLk e (okfrP v p), (false, [])) := by
  unfold spfrLP okfrP
  rw [spLacks_lk, spLacks_lk, spLk_and]
theorem spfrLPs_lk {v : Int} : ∀ {ps : List tfrPart.den} {e : Int}, spfrLPs v ps (e, (false, ([] : List Int))) = (spLk e (ps.all (okfrP v)), (false, []))
  | [], e => by rw [List.all_nil, spLk_true]; rfl
  | p :: ps, e => by
    show spfrLPs v ps (spfrLP v p (e, (false, []))) = _
    rw [spfrLP_lk, spfrLPs_lk, spLk_and, List.all_cons]
theorem spfrLR_lk {v : Int} : ∀ {ts : List tfrTopic.den} {e : Int}, spfrLR v ts (e, (false, ([] : List Int))) = (spLk e (ts.all fun t => t.2.1.all (okfrP v)), (false, []))
  | [], e => by rw [List.all_nil, spLk_true]; rfl
  | t :: ts, e => by
    show spfrLR v ts (spfrLPs v t.2.1 (e, (false, []))) = _
    rw [spfrLPs_lk, spfrLR_lk, spLk_and, List.all_cons]
theorem cz_fr {v : Int} {m : tfrMsg.den} (hv : 0 ≤ v ∧ v ≤ 3) : (spCZip v spT1p [ndNum 3 m.1, ndRows (m.2.1.map spfrFT)]).2 = okfrM v m := by
  unfold spT1p spTopics okfrM
  rw [spCZ_opt, spCZ_has (spHas_in hv.1 hv.2), spCZ_nil, spCut_leaf (by decide) (by decide), spCut_rows, spZero_num]
  simp only [spCut_frT hv, Bool.true_and, Bool.and_true, Bool.and_assoc]
theorem wz_fr {v : Int} {m : tfrMsg.den} (hv : 0 ≤ v ∧ v ≤ 3) (hm : tfrMsg.wf m) : spWZip v spT1p [ndNum 3 m.1, ndRows (m.2.1.map spfrFT)] = wfrM v m := by
  unfold spT1p spTopics wfrM
  rw [spWZ_o, spWZ_has (spHas_in hv.1 hv.2), spWZip_nl, spW_num (by decide) (w := 4) rfl (spFits_i32 hm.1), spW_rows, spArrW_congr fun t ht => spW_frT hv (hm.2.1.2 t ht)]
  try rfl
theorem fr_law {v : Int} {m : tfrMsg.den} (hm : tfrMsg.wf m) (hok : spfrOkTs m.2.1 = true) : (spDoneO (spfrE v m), spDoneE (spfrE v m)) = spfrW v m := by
  unfold spfrW spfrFull
  rw [spEW_eq (t := spT1p) rfl spChk_1p rfl (spWhole_fr m)]
  unfold spfrE
  rw [spLacks_lk, spfrLR_lk, spLk_and]
  have hr : Wri (wfrM v m) _ := (Wri.hasE v 1 3 m.1 4).seq ((Wri.items fun t ht => Wri.frT v t (List.all_eq_true.1 hok t ht)).seq (Wri.nop))
  refine (hr.done _).trans ?_
  unfold spNewE
  by_cases hv : v < 0 ∨ 3 < v
  · rw [if_pos hv, if_pos hv]
    exact if_pos (by simp [spLk])
  rw [if_neg hv, if_neg hv]
  have hv' : 0 ≤ v ∧ v ≤ 3 := by omega
  rw [cz_fr hv', wz_fr hv' hm]
  show (if spLk 0 (okfrM v m) ≠ 0 then _ else _) = _
  cases hz : okfrM v m
  · exact (if_pos (by decide)).trans (show ([], spLk 0 (okfrM v m)) = _ by rw [hz]; rfl)
  · exact (if_neg (by decide)).trans (if_neg (by decide)).symm
--@alias efrMsg leat/fetch.EncodeRep
abbrev ioefrMsg : Io := iofrMsg
def FefrMsg (d : ioefrMsg.In) : Tr ioefrMsg.Res := .ite (spfrOkTs d.1.2.1.2.1) (.ret (.ret (((spfrW d.1.1 d.1.2.1).1, ((spfrW d.1.1 d.1.2.1).2, ())), ()))) .no
theorem okefrMsg : HcOk prog 37 (ioHd ioefrMsg FefrMsg) := by
  refine HcOk.weakW okfrMsg ?_
  rintro ⟨⟨(v : Int), m, ⟨⟩⟩, ⟨⟩⟩ y hw hy
  obtain ⟨hg, hy⟩ := Tr.guard hy
  refine (bif_true hg _ _).trans ?_
  rw [← hy]
  have h := fr_law (v := v) (m := m) hw.1.2.1 hg
  show some (Out.ret ((spDoneO (spfrE v m), (spDoneE (spfrE v m), ())), ())) = some (Out.ret (((spfrW v m).1, ((spfrW v m).2, ())), ()))
  rw [← h]
theorem okfrP_iff {v : Int} {p : tfrPart.den} (h : okfrP v p = true) : (¬ (2 ≤ v ∧ v ≤ 3) → p.2.2.2.1 = 0) ∧ (¬ (3 ≤ v ∧ v ≤ 3) → p.2.2.2.2.1 = 0) := by
  unfold okfrP at h
  simp only [Bool.and_eq_true] at h
  exact ⟨fun hv => by have h1 := h.1; rw [if_neg hv] at h1; simpa using h1, fun hv => by have h1 := h.2; rw [if_neg hv] at h1; simpa using h1⟩
theorem okfrM_iff {v : Int} {m : tfrMsg.den} (h : okfrM v m = true) : (¬ (1 ≤ v ∧ v ≤ 3) → m.1 = 0) ∧ (m.2.1.all fun t => t.2.1.all (okfrP v)) = true := by
  unfold okfrM at h
  simp only [Bool.and_eq_true] at h
  exact ⟨fun hv => by have h1 := h.1; rw [if_neg hv] at h1; simpa using h1, h.2⟩
theorem Rd.frP {b : List Int} {p : tfrPart.den} {v : Int} (h : tfrPart.wf p) (hk : okfrP v p = true) (hb : p.2.2.2.2.2.1.2.1.length ≤ 2147483647) : Rd b p (wfrP v p) (spfrPD v b) :=
  (Rd.seq (fun a r => (a, r)) (Rd.num (wrapBE_i32 h.1)) (Rd.seq (fun a r => (a, r)) (Rd.num (wrapBE_i16 h.2.1)) (Rd.seq (fun a r => (a, r)) (Rd.num (wrapBE_i64 h.2.2.1)) (Rd.seq (fun a r => (a, r)) (Rd.opt (wrapBE_i64 h.2.2.2.1) (okfrP_iff hk).1) (Rd.seq (fun a r => (a, r)) (Rd.opt (wrapBE_i64 h.2.2.2.2.1) (okfrP_iff hk).2) (Rd.seq (fun a r => (a, r)) (Rd.blo p.2.2.2.2.2.1 hb) (Rd.nop b ()))))))).congr fun s => by unfold spfrPD; rfl
theorem Rd.frT {b : List Int} {t : tfrTopic.den} {v : Int} (h : tfrTopic.wf t) (hk : t.2.1.all (okfrP v) = true) (hb : frOkT t = true) : Rd b t (wfrT v t) (spfrTD v b) :=
  (Rd.seq (fun a r => (a, r)) (Rd.txt t.1) (Rd.seq (fun a r => (a, r)) (Rd.list fun p hp => Rd.frP (h.2.1.2 p hp) (List.all_eq_true.1 hk p hp) (of_decide_eq_true (List.all_eq_true.1 hb p hp))) (Rd.nop b ()))).congr fun s => by unfold spfrTD spfrPsD; rfl
theorem Rd.frM {b : List Int} {m : tfrMsg.den} {v : Int} (h : tfrMsg.wf m) (hk0 : okfrM v m = true) (hb : spfrOkTs m.2.1 = true) : Rd b m (wfrM v m) (spfrDB v b) :=
  have hk := (okfrM_iff hk0).2
  (Rd.seq (fun a r => (a, r)) (Rd.opt (wrapBE_i32 h.1) (okfrM_iff hk0).1) (Rd.seq (fun a r => (a, r)) (Rd.list fun t ht => Rd.frT (h.2.1.2 t ht) (List.all_eq_true.1 hk t ht) (List.all_eq_true.1 hb t ht)) (Rd.nop b ()))).congr fun s => by unfold spfrDB spfrTsD; rfl
theorem fr_wrote {v : Int} {m : tfrMsg.den} (hm : tfrMsg.wf m) (h : (spfrW v m).2 = 0) : 0 ≤ v ∧ v ≤ 3 ∧ okfrM v m = true ∧ (wfrM v m).2 = 0 ∧ (spfrW v m).1 = (wfrM v m).1 ∧ (spfrW v m).1.length ≤ 130048 := by
  have hlen : (spfrW v m).1.length ≤ 130048 := by unfold spfrW; exact spEW_len _ _ _ _
  unfold spfrW spfrFull at h hlen ⊢
  rw [spEW_eq (t := spT1p) rfl spChk_1p rfl (spWhole_fr m)] at h hlen ⊢
  by_cases hv : v < 0 ∨ 3 < v
  · rw [if_pos hv] at h; cases h
  rw [if_neg hv] at h hlen ⊢
  have hv' : 0 ≤ v ∧ v ≤ 3 := by omega
  rw [cz_fr hv', wz_fr hv' hm] at h hlen ⊢
  generalize hz : okfrM v m = z at h hlen ⊢
  cases z with
  | false => rw [if_pos rfl] at h; cases h
  | true =>
    rw [if_neg (by decide)] at h hlen ⊢
    by_cases h1 : (wfrM v m).2 = 0
    · rw [if_neg (by simpa using h1)] at h hlen ⊢
      by_cases h2 : 130048 < (wfrM v m).1.length
      · rw [if_pos h2] at h; cases h
      · rw [if_neg h2] at h hlen ⊢
        exact ⟨hv'.1, hv'.2, rfl, h1, rfl, hlen⟩
    · rw [if_pos h1] at h
      exact absurd h h1
theorem fr_back {v : Int} {m : tfrMsg.den} (hm : tfrMsg.wf m) (hb : spfrOkTs m.2.1 = true) (h : (spfrW v m).2 = 0) :
    spfrD v (spfrW v m).1 = (m, 0) ∧ (spfrD v ((spfrW v m).1.take ((spfrW v m).1.length - 1))).2 = 1 := by
  obtain ⟨h1, h2, h3, h4, h5, h6⟩ := fr_wrote hm h
  rw [h5] at h6 ⊢
  generalize hr : (wfrM v m).1 = r at h6 ⊢
  have hne : r ≠ [] := by
    intro e
    have h4c := h4
    have hl' : (wfrM v m).1.length = 0 := by rw [hr, e]; rfl
    unfold wfrM at h4c hl'
    have s0 := spSeq_zero h4c
    have l0 := congrArg List.length s0.2.2
    rw [List.length_append] at l0
    have s1 := spSeq_zero s0.2.1
    have l1 := congrArg List.length s1.2.2
    rw [List.length_append] at l1
    have h8 := spArrW_len s1.1
    omega
  refine ⟨?_, ?_⟩
  · have key := (Rd.frM (b := r) hm h3 hb h4).full 0 [] (Nat.zero_le _) (by rw [hr]; simp)
    have key : spfrDB v r (0, 0) = (m, (0, ((0 + (wfrM v m).1.length : Nat) : Int))) := key
    rw [hr] at key
    unfold spfrD
    rw [if_pos ⟨h1, h2, by omega⟩, key]
    have he : spDEnd r (0, ((0 + r.length : Nat) : Int)) = 0 := by
      unfold spDEnd spEnd
      rw [if_pos rfl, if_neg (by omega)]
    rw [if_pos he]
  · obtain ⟨t, ht, htr⟩ := take_last hne
    have key := (Rd.frM (b := r.take (r.length - 1)) hm h3 hb h4).short 0 t (Nat.zero_le _) ht (by rw [hr]; exact htr)
    have key : (spfrDB v (r.take (r.length - 1)) (0, 0)).2.1 = 1 := key
    unfold spfrD
    rw [if_pos ⟨h1, h2, by rw [List.length_take]; omega⟩]
    have he : spDEnd (r.take (r.length - 1)) (spfrDB v (r.take (r.length - 1)) (0, 0)).2 = 1 := by
      unfold spDEnd
      rw [if_neg (by rw [key]; decide)]; exact key
    rw [he, if_neg (by decide)]
end
end Go.Proofs.YtjpeefegeobgfaaGreat.Sym
namespace Go.Proofs.YtjpeefegeobgfaaGreat.Sym
open Go
set_option linter.unusedSimpArgs false
set_option linter.unusedVariables false
noncomputable section
abbrev iofalive : Io := ⟨[], [], [], [dB], none⟩
def Ffalive (d : iofalive.In) : Tr iofalive.Res := .ret (.ret ((true, ()), ()))
abbrev csfalive : List (Nat × Hc) := [(33, ioHd iofqMsg FfqMsg), (37, ioHd iofrMsg FfrMsg), (43, ioHd iodfqMsg FdfqMsg), (40, ioHd iodfrMsg FdfrMsg), (49, ioHd ioSame FSame)]
def hdfalive : Hd := hdT csfalive
def lpfalive : Lp := lpT []
def bodyfalive : Option iofalive.Res := bif (spfqD 0 [255, 255, 255, 255, 0, 0, 0, 0, 0, 0, 0, 1, 0, 0, 0, 0]).snd != 0 then some (Out.ret ((false, ()), ())) else bif (spfrD 1 [0, 0, 0, 5, 0, 0, 0, 0]).snd != 0 then some (Out.ret ((false, ()), ())) else bif (spfqD 0 [255, 255, 255, 255, 0, 0, 0, 0, 0, 0, 0, 1, 0, 0, 0, 0]).fst.fst != -1 then some (Out.ret ((false, ()), ())) else bif (spfqD 0 [255, 255, 255, 255, 0, 0, 0, 0, 0, 0, 0, 1, 0, 0, 0, 0]).fst.snd.snd.fst != 1 then some (Out.ret ((false, ()), ())) else bif (spfrD 1 [0, 0, 0, 5, 0, 0, 0, 0]).fst.fst != 5 then some (Out.ret ((false, ()), ())) else some (Out.ret ((decide ([0, 0, 0, 0] = [0, 0, 0, 0]), ()), ()))
theorem runfalive : Io.run tt hdfalive dr lpfalive iofalive Go.Proofs.Tryz.f30 ((), ()) = bodyfalive  := by kernel_rfl
theorem okfalive : HcOk prog 30 (ioHd iofalive Ffalive) := by
  refine fn_sound (n := 400) hm (cs := csfalive) (.cons okfqMsg (.cons okfrMsg (.cons okdfqMsg (.cons okdfrMsg (.cons okSame .nil))))) (lp := lpfalive) (fn := Go.Proofs.Tryz.f30) (by kernel_rfl) (by kernel_rfl) (by kernel_rfl) iofalive (.done (by kernel_rfl)) Ffalive ?_
  rintro ⟨⟨⟩, ⟨⟩⟩ out hw ho
  cases ho
  refine runfalive.trans ?_
  kernel_rfl
end
end Go.Proofs.YtjpeefegeobgfaaGreat.Sym
namespace Go.Proofs.YtjpeefegeobgfaaGreat.Sym
open Go
set_option linter.unusedSimpArgs false
set_option linter.unusedVariables false
noncomputable section
def spSmfq (m : tfqMsg.den) : Bool := spfqLens m.2.2.2.2.2.1 && decide (8 * spWt (spfqFull m) ≤ 4294967296)
def spSmfr (m : tfrMsg.den) : Bool := spfrOkTs m.2.1 && (spfrLens m.2.1 && decide (8 * spWt (spfrFull m) ≤ 4294967296))
end
end Go.Proofs.YtjpeefegeobgfaaGreat.Sym
namespace Go.Proofs.YtjpeefegeobgfaaGreat.Sym
open Go
set_option linter.unusedSimpArgs false
set_option linter.unusedVariables false
noncomputable section
end
end Go.Proofs.YtjpeefegeobgfaaGreat.Sym
namespace Go.Proofs.YtjpeefegeobgfaaGreat.Sym
open Go
set_option linter.unusedSimpArgs false
set_option linter.unusedVariables false
noncomputable section
end
end Go.Proofs.YtjpeefegeobgfaaGreat.Sym
namespace Go.Proofs.YtjpeefegeobgfaaGreat.Sym
open Go
set_option linter.unusedSimpArgs false
set_option linter.unusedVariables false
noncomputable section
theorem sum_ones {k : IntKind} : ∀ b : List Int, (List.map (dsz (.int k)) b).sum = b.length
  | [] => rfl
  | c :: b => by
    have := sum_ones (k := k) b
    rw [List.map_cons, List.sum_cons, this, List.length_cons]
    show 1 + _ = _
    omega
theorem dsz_bs (b : List Int) : dsz bs b = b.length + 1 := by
  show (List.map (dsz (.int .u8)) b).sum + 1 = _
  rw [sum_ones]
theorem wts_map {T : Ty} {F : T.den → Nd} {c : Nat} : ∀ {l : List T.den}, (∀ x ∈ l, spWt (F x) ≤ c * dsz T x) → spWts (l.map F) ≤ c * (l.map (dsz T)).sum
  | [], _ => by rw [List.map_nil, spWts_nil]; exact Nat.zero_le _
  | x :: l, h => by
    have h1 := h x (by simp)
    have h2 := wts_map (l := l) fun y hy => h y (List.mem_cons_of_mem _ hy)
    rw [List.map_cons, spWts_cons, List.map_cons, List.sum_cons, Nat.mul_add]
    omega
theorem sum_mem {T : Ty} {x : T.den} : ∀ {l : List T.den}, x ∈ l → dsz T x ≤ (l.map (dsz T)).sum
  | y :: l, h => by
    rw [List.map_cons, List.sum_cons]
    rcases List.mem_cons.1 h with rfl | h
    · omega
    · have := sum_mem (l := l) h; omega
theorem sum_len {T : Ty} (hT : ∀ x : T.den, 1 ≤ dsz T x) : ∀ l : List T.den, l.length ≤ (l.map (dsz T)).sum
  | [] => Nat.zero_le _
  | x :: l => by
    have := sum_len hT l
    have := hT x
    rw [List.map_cons, List.sum_cons, List.length_cons]; omega
theorem spWt_num (k n : Int) : spWt (ndNum k n) = 1 := by rw [spWt_eq]; show 1 + 0 + spWts [] = 1; rw [spWts_nil]
theorem spWt_text (x : List Int) : spWt (ndText x) = 1 + x.length := by rw [spWt_eq]; show 1 + x.length + spWts [] = _; rw [spWts_nil]; rfl
theorem spWt_nbytes (x : tBlobT.den) : spWt (ndNBytes x) = 1 + x.2.1.length := by rw [spWt_eq]; show 1 + x.2.1.length + spWts [] = _; rw [spWts_nil]; rfl
theorem spWt_row (l : List Nd) : spWt (ndRow l) = 1 + spWts l := by rw [spWt_eq]; show 1 + 0 + spWts l = _; omega
theorem spWt_rows (l : List Nd) : spWt (ndRows l) = 1 + spWts l := by rw [spWt_eq]; show 1 + 0 + spWts l = _; omega
end
end Go.Proofs.YtjpeefegeobgfaaGreat.Sym
namespace Go.Proofs.YtjpeefegeobgfaaGreat.Sym
open Go
set_option linter.unusedSimpArgs false
set_option linter.unusedVariables false
noncomputable section
theorem dsz_fqP (p : tfqPart.den) : dsz tfqPart p = 4 := rfl
theorem dsz_fqT (t : tfqTopic.den) : dsz tfqTopic t = (t.1.length + 1) + (((t.2.1.map (dsz tfqPart)).sum + 1) + 0) := rfl
theorem dsz_fqM (m : tfqMsg.den) : dsz tfqMsg m = 1 + (1 + (1 + (1 + (1 + (((m.2.2.2.2.2.1.map (dsz tfqTopic)).sum + 1) + (0)))))) := rfl
theorem wt_fqP (p : tfqPart.den) : spWt (spfqF p) ≤ 3 * dsz tfqPart p := by
  rw [dsz_fqP]
  show spWt (ndRow [ndNum 3 p.1, ndNum 3 p.2.2.1, ndNum 4 p.2.1, ndNum 3 p.2.2.2.1]) ≤ _
  rw [spWt_row, spWts_cons, spWts_cons, spWts_cons, spWts_cons, spWts_nil, spWt_num, spWt_num, spWt_num, spWt_num]
  omega
theorem wt_fqT (t : tfqTopic.den) : spWt (spfqFT t) ≤ 3 * dsz tfqTopic t := by
  have h := wts_map (T := tfqPart) (F := spfqF) (c := 3) (l := t.2.1) fun p _ => wt_fqP p
  rw [dsz_fqT]
  show spWt (ndRow [ndText t.1, ndRows (t.2.1.map spfqF)]) ≤ _
  rw [spWt_row, spWts_cons, spWts_cons, spWts_nil, spWt_text, spWt_rows]
  omega
theorem fq_bulk {m : tfqMsg.den} (h : dsz tfqMsg m ≤ 1048576) : spSmfq m = true := by
  have h1 := wts_map (T := tfqTopic) (F := spfqFT) (c := 3) (l := m.2.2.2.2.2.1) fun t _ => wt_fqT t
  have h2 := sum_len (T := tfqTopic) (fun t => by rw [dsz_fqT]; omega) m.2.2.2.2.2.1
  rw [dsz_fqM] at h
  have hp : ∀ t ∈ m.2.2.2.2.2.1, t.2.1.length ≤ 1048576 := fun t htm => by
    have a1 := sum_mem (T := tfqTopic) htm
    rw [dsz_fqT] at a1
    have a2 := sum_len (T := tfqPart) (fun p => by rw [dsz_fqP]; omega) t.2.1
    omega
  unfold spSmfq
  simp only [Bool.and_eq_true, decide_eq_true_eq]
  refine ⟨?_, ?_⟩
  · unfold spfqLens
    simp only [Bool.and_eq_true, decide_eq_true_eq]
    refine ⟨by omega, List.all_eq_true.2 fun t htm => decide_eq_true ?_⟩
    have := hp t htm
    omega
  · unfold spfqFull
    show 8 * spWt (ndRow [ndNum 3 m.1, ndNum 3 m.2.1, ndNum 3 m.2.2.1, ndNum 3 m.2.2.2.1, ndNum 1 m.2.2.2.2.1, ndRows (m.2.2.2.2.2.1.map spfqFT)]) ≤ _
    rw [spWt_row, spWts_cons, spWts_cons, spWts_cons, spWts_cons, spWts_cons, spWts_cons, spWts_nil, spWt_num, spWt_num, spWt_num, spWt_num, spWt_num, spWt_rows]
    omega
theorem dsz_frP (p : tfrPart.den) : dsz tfrPart p = p.2.2.2.2.2.1.2.1.length + 7 := by
  show 1 + (1 + (1 + (1 + (1 + ((1 + (dsz bs p.2.2.2.2.2.1.2.1 + 0)) + 0))))) = _
  rw [dsz_bs]; omega
theorem dsz_frT (t : tfrTopic.den) : dsz tfrTopic t = (t.1.length + 1) + (((t.2.1.map (dsz tfrPart)).sum + 1) + 0) := rfl
theorem dsz_frM (m : tfrMsg.den) : dsz tfrMsg m = 1 + (((m.2.1.map (dsz tfrTopic)).sum + 1) + (0)) := rfl
theorem wt_frP (p : tfrPart.den) : spWt (spfrF p) ≤ 3 * dsz tfrPart p := by
  rw [dsz_frP]
  show spWt (ndRow [ndNum 3 p.1, ndNum 2 p.2.1, ndNum 4 p.2.2.1, ndNum 4 p.2.2.2.1, ndNum 4 p.2.2.2.2.1, ndNBytes p.2.2.2.2.2.1]) ≤ _
  rw [spWt_row, spWts_cons, spWts_cons, spWts_cons, spWts_cons, spWts_cons, spWts_cons, spWts_nil, spWt_num, spWt_num, spWt_num, spWt_num, spWt_num, spWt_nbytes]
  omega
theorem wt_frT (t : tfrTopic.den) : spWt (spfrFT t) ≤ 3 * dsz tfrTopic t := by
  have h := wts_map (T := tfrPart) (F := spfrF) (c := 3) (l := t.2.1) fun p _ => wt_frP p
  rw [dsz_frT]
  show spWt (ndRow [ndText t.1, ndRows (t.2.1.map spfrF)]) ≤ _
  rw [spWt_row, spWts_cons, spWts_cons, spWts_nil, spWt_text, spWt_rows]
  omega
theorem fr_bulk {m : tfrMsg.den} (h : dsz tfrMsg m ≤ 1048576) : spSmfr m = true := by
  have h1 := wts_map (T := tfrTopic) (F := spfrFT) (c := 3) (l := m.2.1) fun t _ => wt_frT t
  have h2 := sum_len (T := tfrTopic) (fun t => by rw [dsz_frT]; omega) m.2.1
  rw [dsz_frM] at h
  have hp : ∀ t ∈ m.2.1, t.2.1.length ≤ 1048576 ∧ ∀ p ∈ t.2.1, p.2.2.2.2.2.1.2.1.length ≤ 1048576 := fun t htm => by
    have a1 := sum_mem (T := tfrTopic) htm
    rw [dsz_frT] at a1
    have a2 := sum_len (T := tfrPart) (fun p => by rw [dsz_frP]; omega) t.2.1
    refine ⟨by omega, fun p hp => ?_⟩
    have a3 := sum_mem (T := tfrPart) hp
    rw [dsz_frP] at a3
    omega
  unfold spSmfr
  simp only [Bool.and_eq_true, decide_eq_true_eq]
  refine ⟨?_, ?_, ?_⟩
  · refine List.all_eq_true.2 fun t htm => List.all_eq_true.2 fun p hpm => decide_eq_true ?_
    have := (hp t htm).2 p hpm
    omega
  · unfold spfrLens
    simp only [Bool.and_eq_true, decide_eq_true_eq]
    refine ⟨by omega, List.all_eq_true.2 fun t htm => decide_eq_true ?_⟩
    have := (hp t htm).1
    omega
  · unfold spfrFull
    show 8 * spWt (ndRow [ndNum 3 m.1, ndRows (m.2.1.map spfrFT)]) ≤ _
    rw [spWt_row, spWts_cons, spWts_cons, spWts_nil, spWt_num, spWt_rows]
    omega
end
end Go.Proofs.YtjpeefegeobgfaaGreat.Sym
namespace Go.Proofs.YtjpeefegeobgfaaGreat.Sym
open Go
set_option linter.unusedSimpArgs false
set_option linter.unusedVariables false
noncomputable section
theorem spEW_nil {k : Int} {r : Bool} {v : Int} {n : Nd} (h : (spEW k r v n).2 ≠ 0) : (spEW k r v n).1 = [] := by
  unfold spEW spEnc at h ⊢
  repeat' (split; · rfl)
  repeat' split
  all_goals first | rfl | (simp_all; done)
theorem cut_last {b : List Int} (h : b.length ≤ 130048) : List.drop (Int.toNat 0) (List.take (IntKind.i64.wrap ((b.length : Int) - 1)).toNat b) = b.take (b.length - 1) := by
  rw [wrap_i64 (n := (b.length : Int) - 1) (by omega) (by omega)]
  have : ((b.length : Int) - 1).toNat = b.length - 1 := by omega
  rw [this]; rfl
end
end Go.Proofs.YtjpeefegeobgfaaGreat.Sym
namespace Go.Proofs.YtjpeefegeobgfaaGreat.Sym
open Go
set_option linter.unusedSimpArgs false
set_option linter.unusedVariables false
noncomputable section
abbrev iofBack : Io := ⟨[dI, .dat tfqMsg true false, .dat tfrMsg true false], [], [], [dB], none⟩
def FfBack (d : iofBack.In) : Tr iofBack.Res := .ite (spSmfq d.1.2.1 && spSmfr d.1.2.2.1) (.ret (.ret ((true, ()), ()))) .no
abbrev csfBack : List (Nat × Hc) := [(30, ioHd iofalive Ffalive), (31, ioHd iozfqTwin FzfqTwin), (32, ioHd iozfqEnc FzfqEnc), (33, ioHd ioefqMsg FefqMsg), (43, ioHd iodfqMsg FdfqMsg), (29, ioHd ioPiece FPiece), (34, ioHd iozfqAlike FzfqAlike), (35, ioHd iozfrTwin FzfrTwin), (36, ioHd iozfrEnc FzfrEnc), (37, ioHd ioefrMsg FefrMsg), (40, ioHd iodfrMsg FdfrMsg), (38, ioHd iozfrAlike FzfrAlike)]
def hdfBack : Hd := hdT csfBack
def lpfBack : Lp := lpT []
def bodyfBack (a0 : Int) (a1 : Int) (a2 : Int) (a3 : Int) (a4 : Int) (a5 : Int) (a6 : List tfqTopic.den) (a7 : Int) (a8 : List tfrTopic.den) : Option iofBack.Res := bif spfqLens a6 && decide (spWt (spfqFull (a1, a2, a3, a4, a5, a6, ())) ≤ 4294967296) then bif (spfqW a0 (a1, a2, a3, a4, a5, a6, ())).snd != 0 then bif spfqLens a6 && decide (8 * spWt (spfqFull (a1, a2, a3, a4, a5, a6, ())) ≤ 4294967296) then bif (spfqW a0 (a1, a2, a3, a4, a5, a6, ())).snd == 0 then some (Out.ret ((false, ()), ())) else bif (↑(spfqW a0 (a1, a2, a3, a4, a5, a6, ())).fst.length : Int) != 0 then some (Out.ret ((false, ()), ())) else bif spfrLens a8 && decide (spWt (spfrFull (a7, a8, ())) ≤ 4294967296) then bif spfrOkTs a8 then bif (spfrW a0 (a7, a8, ())).snd != 0 then bif spfrLens a8 && decide (8 * spWt (spfrFull (a7, a8, ())) ≤ 4294967296) then bif (spfrW a0 (a7, a8, ())).snd != 0 then some (Out.ret (((↑(spfrW a0 (a7, a8, ())).fst.length : Int) == 0, ()), ())) else some (Out.ret ((false, ()), ())) else none else bif decide ((spfrW a0 (a7, a8, ())).fst.length ≤ 4294967296) then bif (spfrD a0 (spfrW a0 (a7, a8, ())).fst).snd == 0 then bif (spfrD a0 (List.drop (Int.toNat 0) (List.take (IntKind.i64.wrap ((↑(spfrW a0 (a7, a8, ())).fst.length : Int) - 1)).toNat (spfrW a0 (a7, a8, ())).fst))).snd == 1 then bif spfrLens (spfrD a0 (spfrW a0 (a7, a8, ())).fst).fst.snd.fst && spfrLens a8 then some (Out.ret ((spEqT (spfrD a0 (spfrW a0 (a7, a8, ())).fst).fst (a7, a8, ()), ()), ())) else none else some (Out.ret ((false, ()), ())) else some (Out.ret ((false, ()), ())) else none else none else none else none else bif decide ((spfqW a0 (a1, a2, a3, a4, a5, a6, ())).fst.length ≤ 4294967296) then bif (spfqD a0 (spfqW a0 (a1, a2, a3, a4, a5, a6, ())).fst).snd != 0 then some (Out.ret ((false, ()), ())) else bif (spfqD a0 (List.drop (Int.toNat 0) (List.take (IntKind.i64.wrap ((↑(spfqW a0 (a1, a2, a3, a4, a5, a6, ())).fst.length : Int) - 1)).toNat (spfqW a0 (a1, a2, a3, a4, a5, a6, ())).fst))).snd != 1 then some (Out.ret ((false, ()), ())) else bif spfqLens (spfqD a0 (spfqW a0 (a1, a2, a3, a4, a5, a6, ())).fst).fst.snd.snd.snd.snd.snd.fst && spfqLens a6 then bif !spEqT (spfqD a0 (spfqW a0 (a1, a2, a3, a4, a5, a6, ())).fst).fst (a1, a2, a3, a4, a5, a6, ()) then some (Out.ret ((false, ()), ())) else bif spfrLens a8 && decide (spWt (spfrFull (a7, a8, ())) ≤ 4294967296) then bif spfrOkTs a8 then bif (spfrW a0 (a7, a8, ())).snd != 0 then bif spfrLens a8 && decide (8 * spWt (spfrFull (a7, a8, ())) ≤ 4294967296) then bif (spfrW a0 (a7, a8, ())).snd != 0 then some (Out.ret (((↑(spfrW a0 (a7, a8, ())).fst.length : Int) == 0, ()), ())) else some (Out.ret ((false, ()), ())) else none else bif decide ((spfrW a0 (a7, a8, ())).fst.length ≤ 4294967296) then bif (spfrD a0 (spfrW a0 (a7, a8, ())).fst).snd == 0 then bif (spfrD a0 (List.drop (Int.toNat 0) (List.take (IntKind.i64.wrap ((↑(spfrW a0 (a7, a8, ())).fst.length : Int) - 1)).toNat (spfrW a0 (a7, a8, ())).fst))).snd == 1 then bif spfrLens (spfrD a0 (spfrW a0 (a7, a8, ())).fst).fst.snd.fst && spfrLens a8 then some (Out.ret ((spEqT (spfrD a0 (spfrW a0 (a7, a8, ())).fst).fst (a7, a8, ()), ()), ())) else none else some (Out.ret ((false, ()), ())) else some (Out.ret ((false, ()), ())) else none else none else none else none else none else none
theorem runfBack (a0 : Int) (a1 : Int) (a2 : Int) (a3 : Int) (a4 : Int) (a5 : Int) (a6 : List tfqTopic.den) (a7 : Int) (a8 : List tfrTopic.den) : Io.run tt hdfBack dr lpfBack iofBack Go.Proofs.Tryz.f10 ((a0, (a1, a2, a3, a4, a5, a6, ()), (a7, a8, ()), ()), ()) = bodyfBack a0 a1 a2 a3 a4 a5 a6 a7 a8 := by kernel_rfl
theorem okfBack : HcOk prog 10 (ioHd iofBack FfBack) := by
  refine fn_sound (n := 400) hm (cs := csfBack) (.cons okfalive (.cons okzfqTwin (.cons okzfqEnc (.cons okefqMsg (.cons okdfqMsg (.cons okPiece (.cons okzfqAlike (.cons okzfrTwin (.cons okzfrEnc (.cons okefrMsg (.cons okdfrMsg (.cons okzfrAlike .nil)))))))))))) (lp := lpfBack) (fn := Go.Proofs.Tryz.f10) (by kernel_rfl) (by kernel_rfl) (by kernel_rfl) iofBack (.done (by kernel_rfl)) FfBack ?_
  rintro ⟨⟨(v : Int), ⟨re, wt, mi, mb, lv, ts, ⟨⟩⟩, ⟨thR, tsR, ⟨⟩⟩, ⟨⟩⟩, ⟨⟩⟩ out hw ho
  obtain ⟨hg, ho⟩ := Tr.guard ho
  unfold spSmfq spSmfr at hg
  simp only [Bool.and_eq_true, decide_eq_true_eq] at hg
  obtain ⟨⟨h2, h3⟩, h1R, h4, h5⟩ := hg
  cases ho
  have hmq := hw.1.2.1
  have hmp := hw.1.2.2.1
  refine (runfBack v re wt mi mb lv ts thR tsR).trans ?_
  unfold bodyfBack
  have h2 : spfqLens ts = true := h2
  have h3 : 8 * spWt (spfqFull (re, (wt, (mi, (mb, (lv, (ts, ()))))))) ≤ 4294967296 := h3
  have h1R : spfrOkTs tsR = true := h1R
  have h4 : spfrLens tsR = true := h4
  have h5 : 8 * spWt (spfrFull (thR, (tsR, ()))) ≤ 4294967296 := h5
  have hmq : tfqMsg.wf (re, (wt, (mi, (mb, (lv, (ts, ())))))) := hmq
  have hmp : tfrMsg.wf (thR, (tsR, ())) := hmp
  have e1 : decide (spWt (spfqFull (re, (wt, (mi, (mb, (lv, (ts, ()))))))) ≤ 4294967296) = true := decide_eq_true (by omega)
  have lq : (spfqW v (re, (wt, (mi, (mb, (lv, (ts, ()))))))).1.length ≤ 130048 := by unfold spfqW; exact spEW_len _ _ _ _
  have nq : (spfqW v (re, (wt, (mi, (mb, (lv, (ts, ()))))))).2 ≠ 0 → (spfqW v (re, (wt, (mi, (mb, (lv, (ts, ()))))))).1 = [] := by unfold spfqW; exact spEW_nil
  have bq := fq_back (v := v) hmq
  have e2 : decide (spWt (spfrFull (thR, (tsR, ()))) ≤ 4294967296) = true := decide_eq_true (by omega)
  have lp : (spfrW v (thR, (tsR, ()))).1.length ≤ 130048 := by unfold spfrW; exact spEW_len _ _ _ _
  have np : (spfrW v (thR, (tsR, ()))).2 ≠ 0 → (spfrW v (thR, (tsR, ()))).1 = [] := by unfold spfrW; exact spEW_nil
  have bp := fr_back (v := v) hmp h1R
  generalize hQ : (re, (wt, (mi, (mb, (lv, (ts, ())))))) = Q at *
  have hts : ts = Q.2.2.2.2.2.1 := by rw [← hQ]
  generalize hP : (thR, (tsR, ())) = R at *
  have hus : tsR = R.2.1 := by rw [← hP]
  have tq : spEqT Q Q = true := spEqT_iff.2 rfl
  have tp : spEqT R R = true := spEqT_iff.2 rfl
  rw [cut_last lq, cut_last lp]
  have dq : decide ((spfqW v Q).1.length ≤ 4294967296) = true := decide_eq_true (by omega)
  have dp : decide ((spfrW v R).1.length ≤ 4294967296) = true := decide_eq_true (by omega)
  have d3 := decide_eq_true h3
  have d5 := decide_eq_true h5
  by_cases hq : (spfqW v Q).2 = 0
  · obtain ⟨bq1, bq2⟩ := bq hq
    by_cases hp : (spfrW v R).2 = 0
    · obtain ⟨bp1, bp2⟩ := bp hp
      rw [hts] at h2 ⊢
      rw [hus] at h1R h4 ⊢
      simp only [h2, h1R, h4, e1, e2, d3, d5, dq, dp, hq, hp, bq1, bq2, bp1, bp2, tq, tp, cond_true, cond_false, bne_self_eq_false, Bool.not_true, Bool.and_self, beq_self_eq_true]
    · have hp' : ((spfrW v R).2 != 0) = true := by simpa using hp
      rw [hts] at h2 ⊢
      simp only [h2, h1R, h4, e1, e2, d3, d5, dq, dp, hq, hp', bq1, bq2, tq, tp, np hp, cond_true, cond_false, bne_self_eq_false, Bool.not_true, Bool.and_self, beq_self_eq_true, List.length_nil]
      rfl
  · have hq' : ((spfqW v Q).2 != 0) = true := by simpa using hq
    have hq2 : ((spfqW v Q).2 == 0) = false := by simpa using hq
    by_cases hp : (spfrW v R).2 = 0
    · obtain ⟨bp1, bp2⟩ := bp hp
      rw [hus] at h1R h4 ⊢
      simp only [h2, h1R, h4, e1, e2, d3, d5, dq, dp, hq', hq2, hp, bp1, bp2, tq, tp, nq hq, cond_true, cond_false, bne_self_eq_false, Bool.not_true, Bool.and_self, beq_self_eq_true, List.length_nil]
      rfl
    · have hp' : ((spfrW v R).2 != 0) = true := by simpa using hp
      simp only [h2, h1R, h4, e1, e2, d3, d5, dq, dp, hq', hq2, hp', tq, tp, nq hq, np hp, cond_true, cond_false, bne_self_eq_false, Bool.not_true, Bool.and_self, beq_self_eq_true, List.length_nil]
      rfl
end
end Go.Proofs.YtjpeefegeobgfaaGreat.Sym
