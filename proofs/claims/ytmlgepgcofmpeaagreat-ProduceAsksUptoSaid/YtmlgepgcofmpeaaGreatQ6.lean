/- produce.DecodeReq: what it reads. -/
import Derived.Test.YtmlgepgcofmpeaaGreatQ5

namespace Go.Proofs.YtmlgepgcofmpeaaGreat.Sym
open Go
set_option linter.unusedSimpArgs false
set_option linter.unusedVariables false
noncomputable section

noncomputable abbrev oDec1 : List (List Sh) := [[.ptr 1 0], [.ptr 2 0, dI, dI], [dL, dI]]
noncomputable abbrev oDecC : List (List Sh) := [[.ptr 1 0, dI, dI], [dL, dI], [.ptr 0 0]]
noncomputable abbrev oDecCZ : List (List Sh) := [[.nil, dI, dI], [.ptr 0 0]]
noncomputable abbrev decOut1 (v : Int) (b : List Int) (s : DeS) : DenO oDec1 := (((), ()), decOut v b s)
noncomputable abbrev decOutC (v : Int) (b : List Int) (s : DeS) : DenO oDecC := (((), (v, (s.1, ()))), ((b, (s.2, ())), (((), ()), ())))
noncomputable abbrev decStC (d : DenO oDecC) : DeS := (d.1.2.2.1, d.2.1.2.1)
/-- So many, as long as all goes well. -/
noncomputable def spRep {α : Type} (one : DeS → α × DeS) : Nat → DeS → List α × DeS
  | 0, s => ([], s)
  | k + 1, s => if s.1 = 0 then ((one s).1 :: (spRep one k (one s).2).1, (spRep one k (one s).2).2) else ([], s)
/-- The error of a list's length. -/
noncomputable def spLen (n : Int) (s : DeS) : DeS := if s.1 = 0 then (if n < 0 then (5, s.2) else if 16 < n then (9, s.2) else s) else s
noncomputable def spList {α : Type} (one : DeS → α × DeS) (b : List Int) (s : DeS) : List α × DeS := spRep one (spDn .i32 4 b s).1.toNat (spLen (spDn .i32 4 b s).1 (spDn .i32 4 b s).2)

/-! ### leat/produce.DecodeReq$1$1 -/
noncomputable abbrev decOutB (v : Int) (b : List Int) (s : DeS) : (Int × (Int × Unit)) × ((List Int × (Int × Unit)) × (Unit × Unit)) := ((v, (s.1, ())), ((b, (s.2, ())), ((), ())))
theorem spLen_ok {b : List Int} {s : DeS} (n : Int) (h : spDok b s.2 = true) : spDok b (spLen n s).2 = true := by
  unfold spLen
  split
  · split
    · exact h
    · split <;> exact h
  · exact h
theorem spRep_ok {α : Type} {one : DeS → α × DeS} {b : List Int} (h1 : ∀ s, spDok b s.2 = true → spDok b (one s).2.2 = true) : ∀ (k : Nat) (s : DeS), spDok b s.2 = true → spDok b (spRep one k s).2.2 = true
  | 0, s, h => h
  | k + 1, s, h => by
    rw [spRep]
    split
    · exact spRep_ok h1 k _ (h1 s h)
    · exact h
theorem spList_ok {α : Type} {one : DeS → α × DeS} {b : List Int} {s : DeS} (h1 : ∀ s, spDok b s.2 = true → spDok b (one s).2.2 = true) (h : spDok b s.2 = true) : spDok b (spList one b s).2.2 = true :=
  spRep_ok h1 _ _ (spLen_ok _ (spDn_ok _ _ h))
theorem spDBlob_ok {b : List Int} {s : DeS} (h : spDok b s.2 = true) : spDok b (spDBlob b s).2.2 = true := by
  unfold spDBlob
  split
  · exact spDn_ok _ _ h
  · exact spDTake_ok _ (spDn_ok _ _ h)
theorem spDStr_ok {b : List Int} {s : DeS} (h : spDok b s.2 = true) : spDok b (spDStr b s).2.2 = true := spDText_ok _ (spDn_ok _ _ h)
theorem spDName_ok {b : List Int} {s : DeS} (h : spDok b s.2 = true) : spDok b (spDName b s).2.2 = true := by
  unfold spDName
  split
  · exact spDn_ok _ _ h
  · exact spDStr_ok h
@[irreducible] noncomputable def spDPart (b : List Int) (s : DeS) : tPart.den × DeS := (((spDn .i32 4 b s).1, ((spDBlob b (spDn .i32 4 b s).2).1, ())), (spDBlob b (spDn .i32 4 b s).2).2)
theorem spDPart_ok {b : List Int} {s : DeS} (h : spDok b s.2 = true) : spDok b (spDPart b s).2.2 = true := by
  unfold spDPart
  exact spDBlob_ok (spDn_ok _ _ h)
noncomputable abbrev iouPart : Io := ⟨[.ptr 0 0], oDec1, [], [.dat tPart true false], none⟩
noncomputable def FuPart (d : iouPart.In) : Tr iouPart.Res := .ite (spDok d.2.2.2.1.1 d.2.2.2.1.2.1) (.ret (.ret (((spDPart d.2.2.2.1.1 (decSt d.2.2)).1, ()), decOut1 d.2.2.1.2.1 d.2.2.2.1.1 (spDPart d.2.2.2.1.1 (decSt d.2.2)).2))) .no
noncomputable abbrev csuPart : List (Nat × Hc) := [(64, ioHd iodI32 FdI32), (70, ioHd iodBlob FdBlob)]
noncomputable def hduPart : Hd := hdT csuPart
noncomputable def lpuPart : Lp := lpT []

noncomputable def bodyuPart (a0 : Int) (a1 : Int) (a2 : List Int) (a3 : Int) : Option iouPart.Res := bif spDok a2 a3 then bif spDok a2 (spDn IntKind.i32 4 a2 (a1, a3)).snd.snd then some (Out.ret ((((spDn IntKind.i32 4 a2 (a1, a3)).fst, ((spDBlob a2 (spDn IntKind.i32 4 a2 (a1, a3)).snd).fst.fst, (spDBlob a2 (spDn IntKind.i32 4 a2 (a1, a3)).snd).fst.snd.fst, ()), ()), ()), ((), ()), ((), a0, (spDBlob a2 (spDn IntKind.i32 4 a2 (a1, a3)).snd).snd.fst, ()), (a2, (spDBlob a2 (spDn IntKind.i32 4 a2 (a1, a3)).snd).snd.snd, ()), ())) else none else none
theorem runuPart (a0 : Int) (a1 : Int) (a2 : List Int) (a3 : Int) : Io.run tt hduPart dr lpuPart iouPart Go.Proofs.Tryz.f69 (((), ()), ((), ()), ((), a0, a1, ()), (a2, a3, ()), ()) = bodyuPart a0 a1 a2 a3 := by kernel_rfl
theorem okuPart : HcOk prog 69 (ioHd iouPart FuPart) := by
  refine fn_sound (n := 400) hm (cs := csuPart) (.cons okdI32 (.cons okdBlob .nil)) (lp := lpuPart) (fn := Go.Proofs.Tryz.f69) (by kernel_rfl) (by kernel_rfl) (by kernel_rfl) iouPart (.done (by kernel_rfl)) FuPart ?_
  rintro ⟨⟨⟨⟩, ⟨⟩⟩, ⟨⟨⟩, ⟨⟩⟩, ⟨⟨⟩, (v : Int), (e : Int), ⟨⟩⟩, ⟨(b : List Int), (p : Int), ⟨⟩⟩, ⟨⟩⟩ out hw ho
  obtain ⟨hg, ho⟩ := Tr.guard ho
  have hg : spDok b p = true := hg
  cases ho
  refine (runuPart v e b p).trans ?_
  unfold bodyuPart
  show _ = some (Out.ret (((spDPart b (e, p)).1, ()), decOut1 v b (spDPart b (e, p)).2))
  unfold spDPart
  refine (bif_true hg _ _).trans ?_
  exact bif_true (spDn_ok .i32 4 (s := (e, p)) hg) _ _
/-! ### leat/wire.List[leat/api.ProdPart] -/
@[irreducible] noncomputable def spDParts (b : List Int) (s : DeS) : List tPart.den × DeS := spList (spDPart b) b s
theorem spDParts_ok {b : List Int} {s : DeS} (h : spDok b s.2 = true) : spDok b (spDParts b s).2.2 = true := by
  unfold spDParts
  exact spList_ok (fun s h => spDPart_ok h) h
noncomputable abbrev iouParts : Io := ⟨[.ptr 0 0, .fnc 69 false [2]], oDecC, [], [.dat (.sl 92 tPart) false false], none⟩
noncomputable def FuParts (d : iouParts.In) : Tr iouParts.Res := .ite (spDok d.2.2.1.1 d.2.2.1.2.1) (.ret (.ret (((spDParts d.2.2.1.1 (decStC d.2)).1, ()), decOutC d.2.1.2.1 d.2.2.1.1 (spDParts d.2.2.1.1 (decStC d.2)).2))) .no
noncomputable abbrev csuParts : List (Nat × Hc) := [(64, ioHd iodI32 FdI32), (69, ioHd iouPart FuPart)]
noncomputable def hduParts : Hd := hdT csuParts
noncomputable abbrev louParts_10 : Lo := ⟨⟨[.one (.ptr 0 0), .one (.fnp 69 false [2]), .any, .any, .any, .one (.hol (.int IntKind.i32)), .one (.onl 92 ((Ty.int IntKind.i32).prod ((Ty.bool.prod ((Ty.sl 5 (Ty.int IntKind.u8)).prod Ty.unit)).prod Ty.unit)) 19), .one (.hol (.int IntKind.i32)), .any, .any, .any, .any, .any, .any, .any, .any, .any, .any, .any, .any, .any, .any, .any, .any, .any, .any, .any, .any, .any, .any, .any, .any, .any, .any, .any, .any, .any, .any, .any, .any, .any, .any, .any, .any, .any, .any], [some [.ptr 1 0, .hol (.int IntKind.i64), .hol (.int IntKind.i64)], some [.hol (.sl 5 (Ty.int IntKind.u8)), .hol (.int IntKind.i64)], some [.ptr 0 0]]⟩, [(.exit 1, ⟨[.any, .any, .any, .any, .any, .any, .one (.onl 92 ((Ty.int IntKind.i32).prod ((Ty.bool.prod ((Ty.sl 5 (Ty.int IntKind.u8)).prod Ty.unit)).prod Ty.unit)) 19), .any, .any, .any, .any, .any, .any, .any, .any, .any, .any, .any, .any, .any, .any, .any, .any, .any, .any, .any, .any, .any, .any, .any, .any, .any, .any, .any, .any, .any, .any, .any, .any, .any, .any, .any, .any, .any, .any, .any], [some [.ptr 1 0, .hol (.int IntKind.i64), .hol (.int IntKind.i64)], some [.hol (.sl 5 (Ty.int IntKind.u8)), .hol (.int IntKind.i64)], some [.ptr 0 0]]⟩)]⟩
-- FuParts_10 : louParts_10.st.den → Tr (DenX louParts_10.xs) | ((h4, (h5, (h6, ()))), ((h7, (h8, ())), ((h9, (h10, ())), ((), ()))))
noncomputable def FuParts_10 (d : louParts_10.st.den) : Tr (DenX louParts_10.xs) :=
  .ite (decide (d.1.2.2.1 = 0) && (decide (d.1.2.1.length = 0) && (spDok d.2.2.1.1 d.2.2.1.2.1 && (decide (d.1.1 ≤ (16 : Int)) || decide (d.2.1.2.1 ≠ 0))))) (.ret (.ret ((), (((spRep (spDPart d.2.2.1.1) d.1.1.toNat (d.2.1.2.1, d.2.2.1.2.1)).1, ()), decOutB d.2.1.1 d.2.2.1.1 (spRep (spDPart d.2.2.1.1) d.1.1.toNat (d.2.1.2.1, d.2.2.1.2.1)).2)))) .no
noncomputable def lpuParts : Lp := lpT [(10, loHd louParts_10 FuParts_10)]
noncomputable def stepuParts_10 {R : Type} (h4 : Int) (h5 : List ((Ty.int IntKind.i32).prod ((Ty.bool.prod ((Ty.sl 5 (Ty.int IntKind.u8)).prod Ty.unit)).prod Ty.unit)).den) (h6 : Int) (h7 : Int) (h8 : Int) (h9 : List Int) (h10 : Int) (next : Int → List ((Ty.int IntKind.i32).prod ((Ty.bool.prod ((Ty.sl 5 (Ty.int IntKind.u8)).prod Ty.unit)).prod Ty.unit)).den → Int → Int → Int → List Int → Int → Option R) (out : DenX louParts_10.xs → Option R) : Option R := bif decide (h6 < h4) then bif h8 == 0 then bif spDok h9 h10 then bif decide (h5.length + [((spDPart h9 (h8, h10)).fst.fst, ((spDPart h9 (h8, h10)).fst.snd.fst.fst, (spDPart h9 (h8, h10)).fst.snd.fst.snd.fst, ()), ())].length ≤ 4294967296) then next (h4) (h5 ++ [((spDPart h9 (h8, h10)).fst.fst, ((spDPart h9 (h8, h10)).fst.snd.fst.fst, (spDPart h9 (h8, h10)).fst.snd.fst.snd.fst, ()), ())]) (IntKind.i32.wrap (h6 + 1)) (h7) ((spDPart h9 (h8, h10)).snd.fst) (h9) ((spDPart h9 (h8, h10)).snd.snd) else none else none else out (.ret ((), ((h5, ()), ((h7, (h8, ())), ((h9, (h10, ())), ((), ())))))) else out (.ret ((), ((h5, ()), ((h7, (h8, ())), ((h9, (h10, ())), ((), ()))))))
noncomputable def ituParts_10 (n : Nat) (h4 : Int) (h5 : List ((Ty.int IntKind.i32).prod ((Ty.bool.prod ((Ty.sl 5 (Ty.int IntKind.u8)).prod Ty.unit)).prod Ty.unit)).den) (h6 : Int) (h7 : Int) (h8 : Int) (h9 : List Int) (h10 : Int) : Option (DenX louParts_10.xs) := lpN tt hduParts dr lpuParts 3 Go.Proofs.Tryz.f68 (topL Go.Proofs.Tryz.f68 0) n (louParts_10.st.mk' ((h4, (h5, (h6, ()))), ((h7, (h8, ())), ((h9, (h10, ())), ((), ()))))) (decX louParts_10.xs)
theorem sluParts_10 (n : Nat) (h4 : Int) (h5 : List ((Ty.int IntKind.i32).prod ((Ty.bool.prod ((Ty.sl 5 (Ty.int IntKind.u8)).prod Ty.unit)).prod Ty.unit)).den) (h6 : Int) (h7 : Int) (h8 : Int) (h9 : List Int) (h10 : Int) : ituParts_10 (n + 1) h4 h5 h6 h7 h8 h9 h10 = stepuParts_10 h4 h5 h6 h7 h8 h9 h10 (ituParts_10 n) some := by kernel_rfl
theorem loopuParts (n v : Int) (b : List Int) : ∀ (k j : Nat) (xs : List tPart.den) (s : DeS), n.toNat < j + k → j ≤ n.toNat → xs.length = j → spDok b s.2 = true → (s.1 = 0 → n ≤ 16) →
    ituParts_10 k n xs j v s.1 b s.2 = some (.ret ((), ((xs ++ (spRep (spDPart b) (n.toNat - j) s).1, ()), decOutB v b (spRep (spDPart b) (n.toNat - j) s).2))) := by
  intro k
  induction k with
  | zero => intro j xs s h; omega
  | succ k ih =>
    intro j xs s h1 h2 h3 h4 h5
    rw [sluParts_10]
    unfold stepuParts_10
    by_cases hj : (j : Int) < n
    · refine (bif_true (by simpa using hj) _ _).trans ?_
      obtain ⟨m, hm⟩ : ∃ m, n.toNat - j = m + 1 := ⟨n.toNat - j - 1, by omega⟩
      rw [hm]
      by_cases he : s.1 = 0
      · refine (bif_true (by simpa using he) _ _).trans ?_
        have hn := h5 he
        refine (bif_true h4 _ _).trans ?_
        refine (bif_true (decide_eq_true (show xs.length + 1 ≤ 4294967296 by omega)) _ _).trans ?_
        have hw : IntKind.i32.wrap ((j : Int) + 1) = ((j + 1 : Nat) : Int) := wrap_id (by simp [inR, IntKind.min, IntKind.max, IntKind.signed, IntKind.bits]; omega)
        rw [hw]
        refine (ih (j + 1) (xs ++ [(spDPart b s).1]) (spDPart b s).2 (by omega) (by omega) (by simp [h3]) (spDPart_ok h4) (fun _ => hn)).trans ?_
        rw [show n.toNat - (j + 1) = m by omega, spRep, if_pos he]
        simp
      · refine (bif_false (by simpa using he) _ _).trans ?_
        rw [spRep, if_neg he]
        simp
    · refine (bif_false (by simpa using hj) _ _).trans ?_
      rw [show n.toNat - j = 0 by omega, spRep]
      simp
noncomputable def bodyuParts (a0 : Int) (a1 : Int) (a2 : List Int) (a3 : Int) : Option iouParts.Res := bif spDok a2 a3 then bif (spDn IntKind.i32 4 a2 (a1, a3)).snd.fst != 0 then (FuParts_10 (((spDn IntKind.i32 4 a2 (a1, a3)).fst, ([], (0, ()))), ((a0, ((spDn IntKind.i32 4 a2 (a1, a3)).snd.fst, ())), ((a2, ((spDn IntKind.i32 4 a2 (a1, a3)).snd.snd, ())), ((), ()))))).run fun y => match y with | .ret ((), ((x28, ()), (x29, x30, ()), (x31, x32, ()), (), ())) => (some (Out.ret ((x28, ()), ((), x29, x30, ()), (x31, x32, ()), ((), ()), ()))) else bif decide ((spDn IntKind.i32 4 a2 (a1, a3)).fst < 0) then (FuParts_10 (((spDn IntKind.i32 4 a2 (a1, a3)).fst, ([], (0, ()))), ((a0, (5, ())), ((a2, ((spDn IntKind.i32 4 a2 (a1, a3)).snd.snd, ())), ((), ()))))).run fun y => match y with | .ret ((), ((x40, ()), (x41, x42, ()), (x43, x44, ()), (), ())) => (some (Out.ret ((x40, ()), ((), x41, x42, ()), (x43, x44, ()), ((), ()), ()))) else bif decide (16 < (spDn IntKind.i32 4 a2 (a1, a3)).fst) then (FuParts_10 (((spDn IntKind.i32 4 a2 (a1, a3)).fst, ([], (0, ()))), ((a0, (9, ())), ((a2, ((spDn IntKind.i32 4 a2 (a1, a3)).snd.snd, ())), ((), ()))))).run fun y => match y with | .ret ((), ((x52, ()), (x53, x54, ()), (x55, x56, ()), (), ())) => (some (Out.ret ((x52, ()), ((), x53, x54, ()), (x55, x56, ()), ((), ()), ()))) else (FuParts_10 (((spDn IntKind.i32 4 a2 (a1, a3)).fst, ([], (0, ()))), ((a0, ((spDn IntKind.i32 4 a2 (a1, a3)).snd.fst, ())), ((a2, ((spDn IntKind.i32 4 a2 (a1, a3)).snd.snd, ())), ((), ()))))).run fun y => match y with | .ret ((), ((x64, ()), (x65, x66, ()), (x67, x68, ()), (), ())) => (some (Out.ret ((x64, ()), ((), x65, x66, ()), (x67, x68, ()), ((), ()), ()))) else none
theorem runuParts (a0 : Int) (a1 : Int) (a2 : List Int) (a3 : Int) : Io.run tt hduParts dr lpuParts iouParts Go.Proofs.Tryz.f68 (((), (), ()), ((), a0, a1, ()), (a2, a3, ()), ((), ()), ()) = bodyuParts a0 a1 a2 a3 := by kernel_rfl
theorem okuParts : HcOk prog 68 (ioHd iouParts FuParts) := by
  refine fn_sound (n := 400) hm (cs := csuParts) (.cons okdI32 (.cons okuPart .nil)) (lp := lpuParts) (fn := Go.Proofs.Tryz.f68) (by kernel_rfl) (by kernel_rfl) (by kernel_rfl) iouParts (.step (h0 := loHd louParts_10 FuParts_10) (by kernel_rfl) (loop_sound (n := 400) hm (cs := csuParts) (.cons okdI32 (.cons okuPart .nil)) (lp := lpuParts) (fn := Go.Proofs.Tryz.f68) (.done (by kernel_rfl)) louParts_10 FuParts_10 ?_) (.done (by kernel_rfl))) FuParts ?_
  · rintro ⟨⟨(n : Int), (xs : List tPart.den), (i : Int), ⟨⟩⟩, ⟨⟨(v : Int), (e : Int), ⟨⟩⟩, ⟨(b : List Int), (p : Int), ⟨⟩⟩, ⟨⟨⟩, ⟨⟩⟩⟩⟩ y hw hy
    obtain ⟨hg, hy⟩ := Tr.guard hy
    simp only [Bool.and_eq_true, decide_eq_true_eq, Bool.or_eq_true] at hg
    obtain ⟨h1, h2, h3, h4⟩ := hg
    have h1 : i = 0 := h1
    have h2 : xs = [] := List.eq_nil_of_length_eq_zero h2
    have h3 : spDok b p = true := h3
    have h4 : n ≤ 16 ∨ e ≠ 0 := h4
    subst h1
    subst h2
    refine ⟨n.toNat + 1, (loopuParts n v b (n.toNat + 1) 0 [] (e, p) (by omega) (by omega) rfl h3 (fun he => h4.resolve_right (fun h => h he))).trans ?_⟩
    rw [← hy]; rfl
  · rintro ⟨⟨⟨⟩, ⟨⟩, ⟨⟩⟩, ⟨⟨⟩, (v : Int), (e : Int), ⟨⟩⟩, ⟨(b : List Int), (p : Int), ⟨⟩⟩, ⟨⟨⟩, ⟨⟩⟩, ⟨⟩⟩ out hw ho
    obtain ⟨hg, ho⟩ := Tr.guard ho
    have hg : spDok b p = true := hg
    cases ho
    refine (runuParts v e b p).trans ?_
    unfold bodyuParts
    show _ = some (Out.ret (((spDParts b (e, p)).1, ()), decOutC v b (spDParts b (e, p)).2))
    unfold spDParts spList
    refine (bif_true hg _ _).trans ?_
    have hr : spDok b (spDn .i32 4 b (e, p)).2.2 = true := spDn_ok .i32 4 (s := (e, p)) hg
    generalize spDn .i32 4 b (e, p) = r at hr ⊢
    obtain ⟨n, e1, q⟩ := r
    have hr : spDok b q = true := hr
    have key : ∀ e' : Int, (e' = 0 → n ≤ 16) → FuParts_10 ((n, ([], (0, ()))), ((v, (e', ())), ((b, (q, ())), ((), ())))) = .ite true (.ret (.ret ((), (((spRep (spDPart b) n.toNat (e', q)).1, ()), decOutB v b (spRep (spDPart b) n.toNat (e', q)).2)))) .no := by
      intro e' he
      refine congrArg (fun c => Tr.ite c _ _) ?_
      show (decide ((0 : Int) = 0) && (decide (([] : List tPart.den).length = 0) && (spDok b q && (decide (n ≤ 16) || decide (e' ≠ 0))))) = true
      rw [hr]
      by_cases h : e' = 0
      · simp [he h]
      · simp [h]
    unfold spLen
    show (bif e1 != 0 then _ else _) = _
    by_cases h1 : e1 = 0
    · refine (bif_false (by simpa using h1) _ _).trans ?_
      show (bif decide (n < 0) then _ else _) = _
      rw [if_pos h1]
      by_cases h2 : n < 0
      · refine (bif_true (by simpa using h2) _ _).trans ?_
        show (FuParts_10 ((n, ([], (0, ()))), ((v, (5, ())), ((b, (q, ())), ((), ()))))).run _ = _
        rw [key 5 (by omega), if_pos h2]
        rfl
      · refine (bif_false (by simpa using h2) _ _).trans ?_
        show (bif decide (16 < n) then _ else _) = _
        rw [if_neg h2]
        by_cases h3 : 16 < n
        · refine (bif_true (by simpa using h3) _ _).trans ?_
          show (FuParts_10 ((n, ([], (0, ()))), ((v, (9, ())), ((b, (q, ())), ((), ()))))).run _ = _
          rw [key 9 (by omega), if_pos h3]
          rfl
        · refine (bif_false (by simpa using h3) _ _).trans ?_
          show (FuParts_10 ((n, ([], (0, ()))), ((v, (e1, ())), ((b, (q, ())), ((), ()))))).run _ = _
          rw [key e1 (by omega), if_neg h3]
          rfl
    · refine (bif_true (by simpa using h1) _ _).trans ?_
      show (FuParts_10 ((n, ([], (0, ()))), ((v, (e1, ())), ((b, (q, ())), ((), ()))))).run _ = _
      rw [key e1 (fun h => absurd h h1), if_neg h1]
      rfl
/-! ### leat/produce.DecodeReq$1 -/
@[irreducible] noncomputable def spDTopic (b : List Int) (s : DeS) : tTopic.den × DeS := (((spDStr b s).1, ((spDParts b (spDStr b s).2).1, ())), (spDParts b (spDStr b s).2).2)
theorem spDTopic_ok {b : List Int} {s : DeS} (h : spDok b s.2 = true) : spDok b (spDTopic b s).2.2 = true := by
  unfold spDTopic
  exact spDParts_ok (spDStr_ok h)
noncomputable abbrev iouTopic : Io := ⟨[.ptr 0 0], oDec1, [], [.dat tTopic true false], none⟩
noncomputable def FuTopic (d : iouTopic.In) : Tr iouTopic.Res := .ite (spDok d.2.2.2.1.1 d.2.2.2.1.2.1) (.ret (.ret (((spDTopic d.2.2.2.1.1 (decSt d.2.2)).1, ()), decOut1 d.2.2.1.2.1 d.2.2.2.1.1 (spDTopic d.2.2.2.1.1 (decSt d.2.2)).2))) .no
noncomputable abbrev csuTopic : List (Nat × Hc) := [(67, ioHd iodStr FdStr), (68, ioHd iouParts FuParts)]
noncomputable def hduTopic : Hd := hdT csuTopic
noncomputable def lpuTopic : Lp := lpT []

noncomputable def bodyuTopic (a0 : Int) (a1 : Int) (a2 : List Int) (a3 : Int) : Option iouTopic.Res := bif spDok a2 a3 then bif spDok a2 (spDStr a2 (a1, a3)).snd.snd then some (Out.ret ((((spDStr a2 (a1, a3)).fst, (spDParts a2 (spDStr a2 (a1, a3)).snd).fst, ()), ()), ((), ()), ((), a0, (spDParts a2 (spDStr a2 (a1, a3)).snd).snd.fst, ()), (a2, (spDParts a2 (spDStr a2 (a1, a3)).snd).snd.snd, ()), ())) else none else none
theorem runuTopic (a0 : Int) (a1 : Int) (a2 : List Int) (a3 : Int) : Io.run tt hduTopic dr lpuTopic iouTopic Go.Proofs.Tryz.f66 (((), ()), ((), ()), ((), a0, a1, ()), (a2, a3, ()), ()) = bodyuTopic a0 a1 a2 a3 := by kernel_rfl
theorem okuTopic : HcOk prog 66 (ioHd iouTopic FuTopic) := by
  refine fn_sound (n := 400) hm (cs := csuTopic) (.cons okdStr (.cons okuParts .nil)) (lp := lpuTopic) (fn := Go.Proofs.Tryz.f66) (by kernel_rfl) (by kernel_rfl) (by kernel_rfl) iouTopic (.done (by kernel_rfl)) FuTopic ?_
  rintro ⟨⟨⟨⟩, ⟨⟩⟩, ⟨⟨⟩, ⟨⟩⟩, ⟨⟨⟩, (v : Int), (e : Int), ⟨⟩⟩, ⟨(b : List Int), (p : Int), ⟨⟩⟩, ⟨⟩⟩ out hw ho
  obtain ⟨hg, ho⟩ := Tr.guard ho
  have hg : spDok b p = true := hg
  cases ho
  refine (runuTopic v e b p).trans ?_
  unfold bodyuTopic
  show _ = some (Out.ret (((spDTopic b (e, p)).1, ()), decOut1 v b (spDTopic b (e, p)).2))
  unfold spDTopic
  refine (bif_true hg _ _).trans ?_
  exact bif_true (spDStr_ok (s := (e, p)) hg) _ _
/-! ### leat/wire.List[leat/api.ProdTopic] -/
@[irreducible] noncomputable def spDTopics (b : List Int) (s : DeS) : List tTopic.den × DeS := spList (spDTopic b) b s
theorem spDTopics_ok {b : List Int} {s : DeS} (h : spDok b s.2 = true) : spDok b (spDTopics b s).2.2 = true := by
  unfold spDTopics
  exact spList_ok (fun s h => spDTopic_ok h) h
noncomputable abbrev iouTopics : Io := ⟨[.ptr 0 0, .fnc 66 false [2]], oDecC, [], [.dat (.sl 86 tTopic) false false], none⟩
noncomputable def FuTopics (d : iouTopics.In) : Tr iouTopics.Res := .ite (spDok d.2.2.1.1 d.2.2.1.2.1) (.ret (.ret (((spDTopics d.2.2.1.1 (decStC d.2)).1, ()), decOutC d.2.1.2.1 d.2.2.1.1 (spDTopics d.2.2.1.1 (decStC d.2)).2))) .no
noncomputable abbrev csuTopics : List (Nat × Hc) := [(64, ioHd iodI32 FdI32), (66, ioHd iouTopic FuTopic)]
noncomputable def hduTopics : Hd := hdT csuTopics
noncomputable abbrev louTopics_10 : Lo := ⟨⟨[.one (.ptr 0 0), .one (.fnp 66 false [2]), .any, .any, .any, .one (.hol (.int IntKind.i32)), .one (.onl 86 (Ty.str.prod ((Ty.sl 92 ((Ty.int IntKind.i32).prod ((Ty.bool.prod ((Ty.sl 5 (Ty.int IntKind.u8)).prod Ty.unit)).prod Ty.unit))).prod Ty.unit)) 19), .one (.hol (.int IntKind.i32)), .any, .any, .any, .any, .any, .any, .any, .any, .any, .any, .any, .any, .any, .any, .any, .any, .any, .any, .any, .any, .any, .any, .any, .any, .any, .any, .any, .any, .any, .any, .any, .any, .any, .any, .any, .any, .any, .any], [some [.ptr 1 0, .hol (.int IntKind.i64), .hol (.int IntKind.i64)], some [.hol (.sl 5 (Ty.int IntKind.u8)), .hol (.int IntKind.i64)], some [.ptr 0 0]]⟩, [(.exit 1, ⟨[.any, .any, .any, .any, .any, .any, .one (.onl 86 (Ty.str.prod ((Ty.sl 92 ((Ty.int IntKind.i32).prod ((Ty.bool.prod ((Ty.sl 5 (Ty.int IntKind.u8)).prod Ty.unit)).prod Ty.unit))).prod Ty.unit)) 19), .any, .any, .any, .any, .any, .any, .any, .any, .any, .any, .any, .any, .any, .any, .any, .any, .any, .any, .any, .any, .any, .any, .any, .any, .any, .any, .any, .any, .any, .any, .any, .any, .any, .any, .any, .any, .any, .any, .any], [some [.ptr 1 0, .hol (.int IntKind.i64), .hol (.int IntKind.i64)], some [.hol (.sl 5 (Ty.int IntKind.u8)), .hol (.int IntKind.i64)], some [.ptr 0 0]]⟩)]⟩
-- FuTopics_10 : louTopics_10.st.den → Tr (DenX louTopics_10.xs) | ((h4, (h5, (h6, ()))), ((h7, (h8, ())), ((h9, (h10, ())), ((), ()))))
noncomputable def FuTopics_10 (d : louTopics_10.st.den) : Tr (DenX louTopics_10.xs) :=
  .ite (decide (d.1.2.2.1 = 0) && (decide (d.1.2.1.length = 0) && (spDok d.2.2.1.1 d.2.2.1.2.1 && (decide (d.1.1 ≤ (16 : Int)) || decide (d.2.1.2.1 ≠ 0))))) (.ret (.ret ((), (((spRep (spDTopic d.2.2.1.1) d.1.1.toNat (d.2.1.2.1, d.2.2.1.2.1)).1, ()), decOutB d.2.1.1 d.2.2.1.1 (spRep (spDTopic d.2.2.1.1) d.1.1.toNat (d.2.1.2.1, d.2.2.1.2.1)).2)))) .no
noncomputable def lpuTopics : Lp := lpT [(10, loHd louTopics_10 FuTopics_10)]
noncomputable def stepuTopics_10 {R : Type} (h4 : Int) (h5 : List (Ty.str.prod ((Ty.sl 92 ((Ty.int IntKind.i32).prod ((Ty.bool.prod ((Ty.sl 5 (Ty.int IntKind.u8)).prod Ty.unit)).prod Ty.unit))).prod Ty.unit)).den) (h6 : Int) (h7 : Int) (h8 : Int) (h9 : List Int) (h10 : Int) (next : Int → List (Ty.str.prod ((Ty.sl 92 ((Ty.int IntKind.i32).prod ((Ty.bool.prod ((Ty.sl 5 (Ty.int IntKind.u8)).prod Ty.unit)).prod Ty.unit))).prod Ty.unit)).den → Int → Int → Int → List Int → Int → Option R) (out : DenX louTopics_10.xs → Option R) : Option R := bif decide (h6 < h4) then bif h8 == 0 then bif spDok h9 h10 then bif decide (h5.length + [((spDTopic h9 (h8, h10)).fst.fst, (spDTopic h9 (h8, h10)).fst.snd.fst, ())].length ≤ 4294967296) then next (h4) (h5 ++ [((spDTopic h9 (h8, h10)).fst.fst, (spDTopic h9 (h8, h10)).fst.snd.fst, ())]) (IntKind.i32.wrap (h6 + 1)) (h7) ((spDTopic h9 (h8, h10)).snd.fst) (h9) ((spDTopic h9 (h8, h10)).snd.snd) else none else none else out (.ret ((), ((h5, ()), ((h7, (h8, ())), ((h9, (h10, ())), ((), ())))))) else out (.ret ((), ((h5, ()), ((h7, (h8, ())), ((h9, (h10, ())), ((), ()))))))
noncomputable def ituTopics_10 (n : Nat) (h4 : Int) (h5 : List (Ty.str.prod ((Ty.sl 92 ((Ty.int IntKind.i32).prod ((Ty.bool.prod ((Ty.sl 5 (Ty.int IntKind.u8)).prod Ty.unit)).prod Ty.unit))).prod Ty.unit)).den) (h6 : Int) (h7 : Int) (h8 : Int) (h9 : List Int) (h10 : Int) : Option (DenX louTopics_10.xs) := lpN tt hduTopics dr lpuTopics 3 Go.Proofs.Tryz.f65 (topL Go.Proofs.Tryz.f65 0) n (louTopics_10.st.mk' ((h4, (h5, (h6, ()))), ((h7, (h8, ())), ((h9, (h10, ())), ((), ()))))) (decX louTopics_10.xs)
theorem sluTopics_10 (n : Nat) (h4 : Int) (h5 : List (Ty.str.prod ((Ty.sl 92 ((Ty.int IntKind.i32).prod ((Ty.bool.prod ((Ty.sl 5 (Ty.int IntKind.u8)).prod Ty.unit)).prod Ty.unit))).prod Ty.unit)).den) (h6 : Int) (h7 : Int) (h8 : Int) (h9 : List Int) (h10 : Int) : ituTopics_10 (n + 1) h4 h5 h6 h7 h8 h9 h10 = stepuTopics_10 h4 h5 h6 h7 h8 h9 h10 (ituTopics_10 n) some := by kernel_rfl
theorem loopuTopics (n v : Int) (b : List Int) : ∀ (k j : Nat) (xs : List tTopic.den) (s : DeS), n.toNat < j + k → j ≤ n.toNat → xs.length = j → spDok b s.2 = true → (s.1 = 0 → n ≤ 16) →
    ituTopics_10 k n xs j v s.1 b s.2 = some (.ret ((), ((xs ++ (spRep (spDTopic b) (n.toNat - j) s).1, ()), decOutB v b (spRep (spDTopic b) (n.toNat - j) s).2))) := by
  intro k
  induction k with
  | zero => intro j xs s h; omega
  | succ k ih =>
    intro j xs s h1 h2 h3 h4 h5
    rw [sluTopics_10]
    unfold stepuTopics_10
    by_cases hj : (j : Int) < n
    · refine (bif_true (by simpa using hj) _ _).trans ?_
      obtain ⟨m, hm⟩ : ∃ m, n.toNat - j = m + 1 := ⟨n.toNat - j - 1, by omega⟩
      rw [hm]
      by_cases he : s.1 = 0
      · refine (bif_true (by simpa using he) _ _).trans ?_
        have hn := h5 he
        refine (bif_true h4 _ _).trans ?_
        refine (bif_true (decide_eq_true (show xs.length + 1 ≤ 4294967296 by omega)) _ _).trans ?_
        have hw : IntKind.i32.wrap ((j : Int) + 1) = ((j + 1 : Nat) : Int) := wrap_id (by simp [inR, IntKind.min, IntKind.max, IntKind.signed, IntKind.bits]; omega)
        rw [hw]
        refine (ih (j + 1) (xs ++ [(spDTopic b s).1]) (spDTopic b s).2 (by omega) (by omega) (by simp [h3]) (spDTopic_ok h4) (fun _ => hn)).trans ?_
        rw [show n.toNat - (j + 1) = m by omega, spRep, if_pos he]
        simp
      · refine (bif_false (by simpa using he) _ _).trans ?_
        rw [spRep, if_neg he]
        simp
    · refine (bif_false (by simpa using hj) _ _).trans ?_
      rw [show n.toNat - j = 0 by omega, spRep]
      simp
noncomputable def bodyuTopics (a0 : Int) (a1 : Int) (a2 : List Int) (a3 : Int) : Option iouTopics.Res := bif spDok a2 a3 then bif (spDn IntKind.i32 4 a2 (a1, a3)).snd.fst != 0 then (FuTopics_10 (((spDn IntKind.i32 4 a2 (a1, a3)).fst, ([], (0, ()))), ((a0, ((spDn IntKind.i32 4 a2 (a1, a3)).snd.fst, ())), ((a2, ((spDn IntKind.i32 4 a2 (a1, a3)).snd.snd, ())), ((), ()))))).run fun y => match y with | .ret ((), ((x28, ()), (x29, x30, ()), (x31, x32, ()), (), ())) => (some (Out.ret ((x28, ()), ((), x29, x30, ()), (x31, x32, ()), ((), ()), ()))) else bif decide ((spDn IntKind.i32 4 a2 (a1, a3)).fst < 0) then (FuTopics_10 (((spDn IntKind.i32 4 a2 (a1, a3)).fst, ([], (0, ()))), ((a0, (5, ())), ((a2, ((spDn IntKind.i32 4 a2 (a1, a3)).snd.snd, ())), ((), ()))))).run fun y => match y with | .ret ((), ((x40, ()), (x41, x42, ()), (x43, x44, ()), (), ())) => (some (Out.ret ((x40, ()), ((), x41, x42, ()), (x43, x44, ()), ((), ()), ()))) else bif decide (16 < (spDn IntKind.i32 4 a2 (a1, a3)).fst) then (FuTopics_10 (((spDn IntKind.i32 4 a2 (a1, a3)).fst, ([], (0, ()))), ((a0, (9, ())), ((a2, ((spDn IntKind.i32 4 a2 (a1, a3)).snd.snd, ())), ((), ()))))).run fun y => match y with | .ret ((), ((x52, ()), (x53, x54, ()), (x55, x56, ()), (), ())) => (some (Out.ret ((x52, ()), ((), x53, x54, ()), (x55, x56, ()), ((), ()), ()))) else (FuTopics_10 (((spDn IntKind.i32 4 a2 (a1, a3)).fst, ([], (0, ()))), ((a0, ((spDn IntKind.i32 4 a2 (a1, a3)).snd.fst, ())), ((a2, ((spDn IntKind.i32 4 a2 (a1, a3)).snd.snd, ())), ((), ()))))).run fun y => match y with | .ret ((), ((x64, ()), (x65, x66, ()), (x67, x68, ()), (), ())) => (some (Out.ret ((x64, ()), ((), x65, x66, ()), (x67, x68, ()), ((), ()), ()))) else none
theorem runuTopics (a0 : Int) (a1 : Int) (a2 : List Int) (a3 : Int) : Io.run tt hduTopics dr lpuTopics iouTopics Go.Proofs.Tryz.f65 (((), (), ()), ((), a0, a1, ()), (a2, a3, ()), ((), ()), ()) = bodyuTopics a0 a1 a2 a3 := by kernel_rfl
theorem okuTopics : HcOk prog 65 (ioHd iouTopics FuTopics) := by
  refine fn_sound (n := 400) hm (cs := csuTopics) (.cons okdI32 (.cons okuTopic .nil)) (lp := lpuTopics) (fn := Go.Proofs.Tryz.f65) (by kernel_rfl) (by kernel_rfl) (by kernel_rfl) iouTopics (.step (h0 := loHd louTopics_10 FuTopics_10) (by kernel_rfl) (loop_sound (n := 400) hm (cs := csuTopics) (.cons okdI32 (.cons okuTopic .nil)) (lp := lpuTopics) (fn := Go.Proofs.Tryz.f65) (.done (by kernel_rfl)) louTopics_10 FuTopics_10 ?_) (.done (by kernel_rfl))) FuTopics ?_
  · rintro ⟨⟨(n : Int), (xs : List tTopic.den), (i : Int), ⟨⟩⟩, ⟨⟨(v : Int), (e : Int), ⟨⟩⟩, ⟨(b : List Int), (p : Int), ⟨⟩⟩, ⟨⟨⟩, ⟨⟩⟩⟩⟩ y hw hy
    obtain ⟨hg, hy⟩ := Tr.guard hy
    simp only [Bool.and_eq_true, decide_eq_true_eq, Bool.or_eq_true] at hg
    obtain ⟨h1, h2, h3, h4⟩ := hg
    have h1 : i = 0 := h1
    have h2 : xs = [] := List.eq_nil_of_length_eq_zero h2
    have h3 : spDok b p = true := h3
    have h4 : n ≤ 16 ∨ e ≠ 0 := h4
    subst h1
    subst h2
    refine ⟨n.toNat + 1, (loopuTopics n v b (n.toNat + 1) 0 [] (e, p) (by omega) (by omega) rfl h3 (fun he => h4.resolve_right (fun h => h he))).trans ?_⟩
    rw [← hy]; rfl
  · rintro ⟨⟨⟨⟩, ⟨⟩, ⟨⟩⟩, ⟨⟨⟩, (v : Int), (e : Int), ⟨⟩⟩, ⟨(b : List Int), (p : Int), ⟨⟩⟩, ⟨⟨⟩, ⟨⟩⟩, ⟨⟩⟩ out hw ho
    obtain ⟨hg, ho⟩ := Tr.guard ho
    have hg : spDok b p = true := hg
    cases ho
    refine (runuTopics v e b p).trans ?_
    unfold bodyuTopics
    show _ = some (Out.ret (((spDTopics b (e, p)).1, ()), decOutC v b (spDTopics b (e, p)).2))
    unfold spDTopics spList
    refine (bif_true hg _ _).trans ?_
    have hr : spDok b (spDn .i32 4 b (e, p)).2.2 = true := spDn_ok .i32 4 (s := (e, p)) hg
    generalize spDn .i32 4 b (e, p) = r at hr ⊢
    obtain ⟨n, e1, q⟩ := r
    have hr : spDok b q = true := hr
    have key : ∀ e' : Int, (e' = 0 → n ≤ 16) → FuTopics_10 ((n, ([], (0, ()))), ((v, (e', ())), ((b, (q, ())), ((), ())))) = .ite true (.ret (.ret ((), (((spRep (spDTopic b) n.toNat (e', q)).1, ()), decOutB v b (spRep (spDTopic b) n.toNat (e', q)).2)))) .no := by
      intro e' he
      refine congrArg (fun c => Tr.ite c _ _) ?_
      show (decide ((0 : Int) = 0) && (decide (([] : List tTopic.den).length = 0) && (spDok b q && (decide (n ≤ 16) || decide (e' ≠ 0))))) = true
      rw [hr]
      by_cases h : e' = 0
      · simp [he h]
      · simp [h]
    unfold spLen
    show (bif e1 != 0 then _ else _) = _
    by_cases h1 : e1 = 0
    · refine (bif_false (by simpa using h1) _ _).trans ?_
      show (bif decide (n < 0) then _ else _) = _
      rw [if_pos h1]
      by_cases h2 : n < 0
      · refine (bif_true (by simpa using h2) _ _).trans ?_
        show (FuTopics_10 ((n, ([], (0, ()))), ((v, (5, ())), ((b, (q, ())), ((), ()))))).run _ = _
        rw [key 5 (by omega), if_pos h2]
        rfl
      · refine (bif_false (by simpa using h2) _ _).trans ?_
        show (bif decide (16 < n) then _ else _) = _
        rw [if_neg h2]
        by_cases h3 : 16 < n
        · refine (bif_true (by simpa using h3) _ _).trans ?_
          show (FuTopics_10 ((n, ([], (0, ()))), ((v, (9, ())), ((b, (q, ())), ((), ()))))).run _ = _
          rw [key 9 (by omega), if_pos h3]
          rfl
        · refine (bif_false (by simpa using h3) _ _).trans ?_
          show (FuTopics_10 ((n, ([], (0, ()))), ((v, (e1, ())), ((b, (q, ())), ((), ()))))).run _ = _
          rw [key e1 (by omega), if_neg h3]
          rfl
    · refine (bif_true (by simpa using h1) _ _).trans ?_
      show (FuTopics_10 ((n, ([], (0, ()))), ((v, (e1, ())), ((b, (q, ())), ((), ()))))).run _ = _
      rw [key e1 (fun h => absurd h h1), if_neg h1]
      rfl
/-! ### leat/wire.List[leat/api.ProdTopic] -/
noncomputable abbrev iouTopicsZ : Io := ⟨[.ptr 0 0, .fnc 66 false [1]], oDecCZ, [], [.dat (.sl 86 tTopic) false false], none⟩
noncomputable def FuTopicsZ (d : iouTopicsZ.In) : Tr iouTopicsZ.Res := .ite (decide (d.2.1.2.2.1 ≠ 0)) (.ret (.ret ((([] : List tTopic.den), ()), d.2))) .no
noncomputable abbrev csuTopicsZ : List (Nat × Hc) := [(64, orHd deadB (ioHd iodI32Z FdI32Z) (ioHd iodI32 FdI32))]
noncomputable def hduTopicsZ : Hd := hdT csuTopicsZ
noncomputable abbrev louTopicsZ_10 : Lo := ⟨⟨[.one (.ptr 0 0), .one (.fnp 66 false [1]), .any, .any, .any, .one (.hol (.int IntKind.i32)), .one (.onl 86 (Ty.str.prod ((Ty.sl 92 ((Ty.int IntKind.i32).prod ((Ty.bool.prod ((Ty.sl 5 (Ty.int IntKind.u8)).prod Ty.unit)).prod Ty.unit))).prod Ty.unit)) 17), .one (.hol (.int IntKind.i32)), .any, .any, .any, .any, .any, .any, .any, .any, .any, .any, .any, .any, .any, .any, .any, .any, .any, .any, .any, .any, .any, .any, .any, .any, .any, .any, .any, .any, .any, .any, .any, .any, .any, .any, .any, .any, .any, .any], [some [.nilp, .hol (.int IntKind.i64), .hol (.int IntKind.i64)], some [.ptr 0 0]]⟩, [(.exit 1, ⟨[.any, .any, .any, .any, .any, .any, .one (.onl 86 (Ty.str.prod ((Ty.sl 92 ((Ty.int IntKind.i32).prod ((Ty.bool.prod ((Ty.sl 5 (Ty.int IntKind.u8)).prod Ty.unit)).prod Ty.unit))).prod Ty.unit)) 17), .any, .any, .any, .any, .any, .any, .any, .any, .any, .any, .any, .any, .any, .any, .any, .any, .any, .any, .any, .any, .any, .any, .any, .any, .any, .any, .any, .any, .any, .any, .any, .any, .any, .any, .any, .any, .any, .any, .any], [some [.nilp, .hol (.int IntKind.i64), .hol (.int IntKind.i64)], some [.ptr 0 0]]⟩)]⟩
-- FuTopicsZ_10 : louTopicsZ_10.st.den → Tr (DenX louTopicsZ_10.xs) | ((h2, (h3, (h4, ()))), ((h5, (h6, ())), ((), ())))
noncomputable def FuTopicsZ_10 (d : louTopicsZ_10.st.den) : Tr (DenX louTopicsZ_10.xs) :=
  .ite (decide (d.2.1.2.1 ≠ 0)) (.ret (.ret ((), ((d.1.2.1, ()), d.2)))) .no
noncomputable def lpuTopicsZ : Lp := lpT [(10, loHd louTopicsZ_10 FuTopicsZ_10)]
noncomputable def stepuTopicsZ_10 {R : Type} (h2 : Int) (h3 : List (Ty.str.prod ((Ty.sl 92 ((Ty.int IntKind.i32).prod ((Ty.bool.prod ((Ty.sl 5 (Ty.int IntKind.u8)).prod Ty.unit)).prod Ty.unit))).prod Ty.unit)).den) (h4 : Int) (h5 : Int) (h6 : Int) (next : Int → List (Ty.str.prod ((Ty.sl 92 ((Ty.int IntKind.i32).prod ((Ty.bool.prod ((Ty.sl 5 (Ty.int IntKind.u8)).prod Ty.unit)).prod Ty.unit))).prod Ty.unit)).den → Int → Int → Int → Option R) (out : DenX louTopicsZ_10.xs → Option R) : Option R := bif decide (h4 < h2) then bif h6 == 0 then none else out (.ret ((), ((h3, ()), ((h5, (h6, ())), ((), ()))))) else out (.ret ((), ((h3, ()), ((h5, (h6, ())), ((), ())))))
noncomputable def ituTopicsZ_10 (n : Nat) (h2 : Int) (h3 : List (Ty.str.prod ((Ty.sl 92 ((Ty.int IntKind.i32).prod ((Ty.bool.prod ((Ty.sl 5 (Ty.int IntKind.u8)).prod Ty.unit)).prod Ty.unit))).prod Ty.unit)).den) (h4 : Int) (h5 : Int) (h6 : Int) : Option (DenX louTopicsZ_10.xs) := lpN tt hduTopicsZ dr lpuTopicsZ 2 Go.Proofs.Tryz.f65 (topL Go.Proofs.Tryz.f65 0) n (louTopicsZ_10.st.mk' ((h2, (h3, (h4, ()))), ((h5, (h6, ())), ((), ())))) (decX louTopicsZ_10.xs)
theorem sluTopicsZ_10 (n : Nat) (h2 : Int) (h3 : List (Ty.str.prod ((Ty.sl 92 ((Ty.int IntKind.i32).prod ((Ty.bool.prod ((Ty.sl 5 (Ty.int IntKind.u8)).prod Ty.unit)).prod Ty.unit))).prod Ty.unit)).den) (h4 : Int) (h5 : Int) (h6 : Int) : ituTopicsZ_10 (n + 1) h2 h3 h4 h5 h6 = stepuTopicsZ_10 h2 h3 h4 h5 h6 (ituTopicsZ_10 n) some := by kernel_rfl
noncomputable def bodyuTopicsZ (a0 : Int) (a1 : Int) : Option iouTopicsZ.Res := bif decide (a1 ≠ 0) then bif a1 != 0 then (FuTopicsZ_10 ((0, ([], (0, ()))), ((a0, (a1, ())), ((), ())))).run fun y => match y with | .ret ((), ((x13, ()), (x14, x15, ()), (), ())) => (some (Out.ret ((x13, ()), ((), x14, x15, ()), ((), ()), ()))) else (FuTopicsZ_10 ((0, ([], (0, ()))), ((a0, (a1, ())), ((), ())))).run fun y => match y with | .ret ((), ((x21, ()), (x22, x23, ()), (), ())) => (some (Out.ret ((x21, ()), ((), x22, x23, ()), ((), ()), ()))) else none
theorem runuTopicsZ (a0 : Int) (a1 : Int) : Io.run tt hduTopicsZ dr lpuTopicsZ iouTopicsZ Go.Proofs.Tryz.f65 (((), (), ()), ((), a0, a1, ()), ((), ()), ()) = bodyuTopicsZ a0 a1 := by kernel_rfl
theorem okuTopicsZ : HcOk prog 65 (ioHd iouTopicsZ FuTopicsZ) := by
  refine fn_sound (n := 400) hm (cs := csuTopicsZ) (.cons (or_sound okdI32Z okdI32) .nil) (lp := lpuTopicsZ) (fn := Go.Proofs.Tryz.f65) (by kernel_rfl) (by kernel_rfl) (by kernel_rfl) iouTopicsZ (.step (h0 := loHd louTopicsZ_10 FuTopicsZ_10) (by kernel_rfl) (loop_sound (n := 400) hm (cs := csuTopicsZ) (.cons (or_sound okdI32Z okdI32) .nil) (lp := lpuTopicsZ) (fn := Go.Proofs.Tryz.f65) (.done (by kernel_rfl)) louTopicsZ_10 FuTopicsZ_10 ?_) (.done (by kernel_rfl))) FuTopicsZ ?_
  · rintro ⟨⟨(n : Int), (xs : List tTopic.den), (i : Int), ⟨⟩⟩, ⟨⟨(v : Int), (e : Int), ⟨⟩⟩, ⟨⟨⟩, ⟨⟩⟩⟩⟩ y hw hy
    obtain ⟨hg, hy⟩ := Tr.guard hy
    have hg : e ≠ 0 := of_decide_eq_true hg
    refine ⟨1, (sluTopicsZ_10 0 n xs i v e).trans ?_⟩
    unfold stepuTopicsZ_10
    rw [← hy]
    by_cases h : i < n
    · refine (bif_true (by simpa using h) _ _).trans ?_
      exact bif_false (by simpa using hg) _ _
    · exact bif_false (by simpa using h) _ _
  · rintro ⟨⟨⟨⟩, ⟨⟩, ⟨⟩⟩, ⟨⟨⟩, (v : Int), (e : Int), ⟨⟩⟩, ⟨⟨⟩, ⟨⟩⟩, ⟨⟩⟩ out hw ho
    obtain ⟨hg, ho⟩ := Tr.guard ho
    have hg : e ≠ 0 := of_decide_eq_true hg
    cases ho
    refine (runuTopicsZ v e).trans ?_
    unfold bodyuTopicsZ
    have e1 : FuTopicsZ_10 ((0, ([], (0, ()))), ((v, (e, ())), ((), ()))) = .ite true (.ret (.ret ((), ((([] : List tTopic.den), ()), ((v, (e, ())), ((), ())))))) .no := congrArg (fun c => Tr.ite c _ _) (decide_eq_true hg)
    refine (bif_true (by simpa using hg) _ _).trans ?_
    refine (bif_true (by simpa using hg) _ _).trans ?_
    rw [e1]
    rfl

/-! ### leat/produce.DecodeReq -/
def newBad (args : List V) (A : AS) : Bool := match args with
  | [.one (.int _ v), .one (.lst _ _ xs _)] => !(decide (0 ≤ v) && (decide (v ≤ 3) && decide ((xs.length : Int) ≤ 130048)))
  | _ => false
noncomputable def spZReq : tReq.den := ((false, (([] : List Int), ())), (0, (0, (([] : List tTopic.den), ()))))
noncomputable def spDTxn (v : Int) (b : List Int) (s : DeS) : tNameT.den × DeS := if s.1 = 0 ∧ 3 ≤ v ∧ v ≤ 3 then spDName b s else ((false, (([] : List Int), ())), s)
noncomputable def spDReqB (v : Int) (b : List Int) : tReq.den × DeS :=
  (((spDTxn v b (0, 0)).1, ((spDn .i16 2 b (spDTxn v b (0, 0)).2).1, ((spDn .i32 4 b (spDn .i16 2 b (spDTxn v b (0, 0)).2).2).1, ((spDTopics b (spDn .i32 4 b (spDn .i16 2 b (spDTxn v b (0, 0)).2).2).2).1, ())))), (spDTopics b (spDn .i32 4 b (spDn .i16 2 b (spDTxn v b (0, 0)).2).2).2).2)
noncomputable def spDecReq (v : Int) (b : List Int) : tReq.den × Int := if 0 ≤ v ∧ v ≤ 3 ∧ (b.length : Int) ≤ 130048 then (if spDEnd b (spDReqB v b).2 = 0 then ((spDReqB v b).1, 0) else (spZReq, spDEnd b (spDReqB v b).2)) else (spZReq, spNewD v)
noncomputable abbrev iouReq : Io := ⟨[dI, dL], [], [], [.dat tReq true false, dI], none⟩
noncomputable def FuReq (d : iouReq.In) : Tr iouReq.Res := .ret (.ret (((spDecReq d.1.1 d.1.2.1).1, ((spDecReq d.1.1 d.1.2.1).2, ())), ()))
noncomputable abbrev csuReq : List (Nat × Hc) := [(60, orHd newBad (ioHd iodNewZ FdNewZ) (ioHd iodNew FdNew)), (61, orHd deadB (ioHd iodHasZ FdHasZ) (ioHd iodHas FdHas)), (62, ioHd iodName FdName), (63, orHd deadB (ioHd iodI16Z FdI16Z) (ioHd iodI16 FdI16)), (64, orHd deadB (ioHd iodI32Z FdI32Z) (ioHd iodI32 FdI32)), (65, orHd deadB (ioHd iouTopicsZ FuTopicsZ) (ioHd iouTopics FuTopics)), (71, orHd deadB (ioHd iodEndZ FdEndZ) (ioHd iodEnd FdEnd))]
noncomputable def hduReq : Hd := hdT csuReq
noncomputable def lpuReq : Lp := lpT []

noncomputable def bodyuReq (a0 : Int) (a1 : List Int) : Option iouReq.Res := bif !(decide (0 ≤ a0) && (decide (a0 ≤ 3) && decide ((↑a1.length : Int) ≤ 130048))) then bif decide (0 ≤ a0) && (decide (a0 ≤ 3) && decide ((↑a1.length : Int) ≤ 130048)) then none else bif decide (spNewD a0 ≠ 0) then bif decide (spNewD a0 ≠ 0) then bif decide (spNewD a0 ≠ 0) then bif decide (spNewD a0 ≠ 0) then bif decide (spNewD a0 ≠ 0) then bif spNewD a0 != 0 then some (Out.ret ((((false, List.map (fun (c : UInt8) => (↑c.toNat : Int)) [], ()), 0, 0, [], ()), spNewD a0, ()), ())) else some (Out.ret ((((false, List.map (fun (c : UInt8) => (↑c.toNat : Int)) [], ()), 0, 0, [], ()), 0, ()), ())) else none else none else none else none else none else bif decide (0 ≤ a0) && (decide (a0 ≤ 3) && decide ((↑a1.length : Int) ≤ 130048)) then bif spDHas a0 3 3 0 then bif spDok a1 0 then bif spDok a1 (spDName a1 (0, 0)).snd.snd then bif spDok a1 (spDn IntKind.i16 2 a1 (spDName a1 (0, 0)).snd).snd.snd then bif spDok a1 (spDn IntKind.i32 4 a1 (spDn IntKind.i16 2 a1 (spDName a1 (0, 0)).snd).snd).snd.snd then bif spDEnd a1 (spDTopics a1 (spDn IntKind.i32 4 a1 (spDn IntKind.i16 2 a1 (spDName a1 (0, 0)).snd).snd).snd).snd != 0 then some (Out.ret ((((false, List.map (fun (c : UInt8) => (↑c.toNat : Int)) [], ()), 0, 0, [], ()), spDEnd a1 (spDTopics a1 (spDn IntKind.i32 4 a1 (spDn IntKind.i16 2 a1 (spDName a1 (0, 0)).snd).snd).snd).snd, ()), ())) else some (Out.ret (((((spDName a1 (0, 0)).fst.fst, (spDName a1 (0, 0)).fst.snd.fst, ()), (spDn IntKind.i16 2 a1 (spDName a1 (0, 0)).snd).fst, (spDn IntKind.i32 4 a1 (spDn IntKind.i16 2 a1 (spDName a1 (0, 0)).snd).snd).fst, (spDTopics a1 (spDn IntKind.i32 4 a1 (spDn IntKind.i16 2 a1 (spDName a1 (0, 0)).snd).snd).snd).fst, ()), 0, ()), ())) else none else none else none else none else bif spDok a1 0 then bif spDok a1 (spRd a1 0 2).snd.fst then bif spDok a1 (spDn IntKind.i32 4 a1 ((spRd a1 0 2).snd.snd, (spRd a1 0 2).snd.fst)).snd.snd then bif spDEnd a1 (spDTopics a1 (spDn IntKind.i32 4 a1 ((spRd a1 0 2).snd.snd, (spRd a1 0 2).snd.fst)).snd).snd != 0 then some (Out.ret ((((false, List.map (fun (c : UInt8) => (↑c.toNat : Int)) [], ()), 0, 0, [], ()), spDEnd a1 (spDTopics a1 (spDn IntKind.i32 4 a1 ((spRd a1 0 2).snd.snd, (spRd a1 0 2).snd.fst)).snd).snd, ()), ())) else some (Out.ret ((((false, List.map (fun (c : UInt8) => (↑c.toNat : Int)) [], ()), IntKind.i16.wrap (spRd a1 0 2).fst, (spDn IntKind.i32 4 a1 ((spRd a1 0 2).snd.snd, (spRd a1 0 2).snd.fst)).fst, (spDTopics a1 (spDn IntKind.i32 4 a1 ((spRd a1 0 2).snd.snd, (spRd a1 0 2).snd.fst)).snd).fst, ()), 0, ()), ())) else none else none else none else none
theorem runuReq (a0 : Int) (a1 : List Int) : Io.run tt hduReq dr lpuReq iouReq Go.Proofs.Tryz.f20 ((a0, a1, ()), ()) = bodyuReq a0 a1 := by kernel_rfl
theorem okuReq : HcOk prog 20 (ioHd iouReq FuReq) := by
  refine fn_sound (n := 400) hm (cs := csuReq) (.cons (or_sound okdNewZ okdNew) (.cons (or_sound okdHasZ okdHas) (.cons okdName (.cons (or_sound okdI16Z okdI16) (.cons (or_sound okdI32Z okdI32) (.cons (or_sound okuTopicsZ okuTopics) (.cons (or_sound okdEndZ okdEnd) .nil))))))) (lp := lpuReq) (fn := Go.Proofs.Tryz.f20) (by kernel_rfl) (by kernel_rfl) (by kernel_rfl) iouReq (.done (by kernel_rfl)) FuReq ?_
  rintro ⟨⟨(v : Int), (b : List Int), ⟨⟩⟩, ⟨⟩⟩ out hw ho
  cases ho
  refine (runuReq v b).trans ?_
  unfold bodyuReq
  show _ = some (Out.ret (((spDecReq v b).1, ((spDecReq v b).2, ())), ()))
  by_cases h : 0 ≤ v ∧ v ≤ 3 ∧ (b.length : Int) ≤ 130048
  · have hc : (decide (0 ≤ v) && (decide (v ≤ 3) && decide ((b.length : Int) ≤ 130048))) = true := by simpa using h
    refine (bif_false (by rw [hc]; rfl) _ _).trans ?_
    refine (bif_true hc _ _).trans ?_
    have hg : spDok b 0 = true := by simp [spDok]; omega
    unfold spDecReq spDReqB
    rw [if_pos h]
    by_cases h3 : v = 3
    · have ht : spDTxn v b (0, 0) = spDName b (0, 0) := by unfold spDTxn; rw [if_pos ⟨rfl, by omega, by omega⟩]
      rw [ht]
      have g1 := spDName_ok (s := (0, 0)) hg
      have g2 := spDn_ok .i16 2 g1
      have g3 := spDn_ok .i32 4 g2
      refine (bif_true (by unfold spDHas; rw [if_pos ⟨rfl, by omega, by omega⟩]) _ _).trans ?_
      refine (bif_true hg _ _).trans ?_
      refine (bif_true g1 _ _).trans ?_
      refine (bif_true g2 _ _).trans ?_
      refine (bif_true g3 _ _).trans ?_
      by_cases hE : spDEnd b (spDTopics b (spDn .i32 4 b (spDn .i16 2 b (spDName b (0, 0)).2).2).2).2 = 0
      · rw [if_pos hE]
        exact bif_false (by simpa using hE) _ _
      · rw [if_neg hE]
        exact bif_true (by simpa using hE) _ _
    · have ht : spDTxn v b (0, 0) = ((false, (([] : List Int), ())), (0, 0)) := by unfold spDTxn; rw [if_neg (by omega)]
      have h16 : spDn .i16 2 b (0, 0) = (IntKind.i16.wrap (spRd b 0 2).1, ((spRd b 0 2).2.2, (spRd b 0 2).2.1)) := if_pos rfl
      rw [ht]
      show _ = some (Out.ret (((if spDEnd b (spDTopics b (spDn .i32 4 b (spDn .i16 2 b (0, 0)).2).2).2 = 0 then _ else _ : tReq.den × Int).1, _), ()))
      have g2 := spDn_ok .i16 2 (s := (0, 0)) hg
      have g3 := spDn_ok .i32 4 g2
      rw [h16] at g2 g3 ⊢
      refine (bif_false (by unfold spDHas; rw [if_neg (by omega)]) _ _).trans ?_
      refine (bif_true hg _ _).trans ?_
      refine (bif_true g2 _ _).trans ?_
      refine (bif_true g3 _ _).trans ?_
      by_cases hE : spDEnd b (spDTopics b (spDn .i32 4 b ((spRd b 0 2).2.2, (spRd b 0 2).2.1)).2).2 = 0
      · rw [if_pos hE]
        exact bif_false (by simpa using hE) _ _
      · rw [if_neg hE]
        exact bif_true (by simpa using hE) _ _
  · have hc : (decide (0 ≤ v) && (decide (v ≤ 3) && decide ((b.length : Int) ≤ 130048))) = false := by
      rw [Bool.eq_false_iff]
      intro h'
      simp only [Bool.and_eq_true, decide_eq_true_eq] at h'
      exact h h'
    have hn : spNewD v ≠ 0 := by unfold spNewD; split <;> decide
    unfold spDecReq
    rw [if_neg h]
    refine (bif_true (by rw [hc]; rfl) _ _).trans ?_
    refine (bif_false hc _ _).trans ?_
    refine (bif_true (decide_eq_true hn) _ _).trans ?_
    refine (bif_true (decide_eq_true hn) _ _).trans ?_
    refine (bif_true (decide_eq_true hn) _ _).trans ?_
    refine (bif_true (decide_eq_true hn) _ _).trans ?_
    refine (bif_true (decide_eq_true hn) _ _).trans ?_
    exact bif_true (by simpa using hn) _ _
end
end Go.Proofs.YtmlgepgcofmpeaaGreat.Sym

/- leatref10: the smaller functions of trees and of fields. -/
namespace Go.Proofs.YtmlgepgcofmpeaaGreat.Sym
open Go
set_option linter.unusedSimpArgs false
set_option linter.unusedVariables false
noncomputable section

noncomputable abbrev tFl : Ty := .prod .str (.prod (.int .i64) (.prod (.int .i64) (.prod (.int .i64) .unit)))
noncomputable abbrev tFld : Ty := .tree tFl 159
noncomputable abbrev dFld : Sh := .dat tFld true false
noncomputable abbrev tFlds : Ty := .sl 159 tFld
noncomputable abbrev dFlds : Sh := .dat tFlds false false
noncomputable abbrev dFldsO : Sh := .dat tFlds false true
abbrev Fd : Type := Tre tFl.den
noncomputable abbrev dNodes : Sh := .dat tNodes false false

/-! ### leat/leatref10.Text -/
noncomputable abbrev iotText : Io := ⟨[dS], [], [], [dNode], none⟩
noncomputable def FtText (d : iotText.In) : Tr iotText.Res := .ret (.ret ((.mk (5, (0, (false, (d.1.1, ())))) [], ()), ()))
noncomputable abbrev cstText : List (Nat × Hc) := []
noncomputable def hdtText : Hd := hdT cstText
noncomputable def lptText : Lp := lpT []

noncomputable def bodytText (a0 : List Int) : Option iotText.Res := some (Out.ret ((Tre.mk (5, 0, false, a0, ()) [], ()), ()))
theorem runtText (a0 : List Int) : Io.run tt hdtText dr lptText iotText Go.Proofs.Tryz.f94 ((a0, ()), ()) = bodytText a0 := by kernel_rfl
theorem oktText : HcOk prog 94 (ioHd iotText FtText) := by
  refine fn_sound (n := 400) hm (cs := cstText) HcsOk.nil (lp := lptText) (fn := Go.Proofs.Tryz.f94) (by kernel_rfl) (by kernel_rfl) (by kernel_rfl) iotText (.done (by kernel_rfl)) FtText ?_
  rintro ⟨⟨(s : List Int), ⟨⟩⟩, ⟨⟩⟩ out hw ho
  cases ho
  exact runtText s

/-! ### leat/leatref10.NText -/
noncomputable abbrev iotNText : Io := ⟨[dNameT], [], [], [dNode], none⟩
noncomputable def FtNText (d : iotNText.In) : Tr iotNText.Res := .ret (.ret ((.mk (6, (0, (d.1.1.1, (d.1.1.2.1, ())))) [], ()), ()))
noncomputable abbrev cstNText : List (Nat × Hc) := []
noncomputable def hdtNText : Hd := hdT cstNText
noncomputable def lptNText : Lp := lpT []

noncomputable def bodytNText (a0 : Bool) (a1 : List Int) : Option iotNText.Res := some (Out.ret ((Tre.mk (6, 0, a0, a1, ()) [], ()), ()))
theorem runtNText (a0 : Bool) (a1 : List Int) : Io.run tt hdtNText dr lptNText iotNText Go.Proofs.Tryz.f96 (((a0, a1, ()), ()), ()) = bodytNText a0 a1 := by kernel_rfl
theorem oktNText : HcOk prog 96 (ioHd iotNText FtNText) := by
  refine fn_sound (n := 400) hm (cs := cstNText) HcsOk.nil (lp := lptNText) (fn := Go.Proofs.Tryz.f96) (by kernel_rfl) (by kernel_rfl) (by kernel_rfl) iotNText (.done (by kernel_rfl)) FtNText ?_
  rintro ⟨⟨⟨(z : Bool), (s : List Int), ⟨⟩⟩, ⟨⟩⟩, ⟨⟩⟩ out hw ho
  cases ho
  exact runtNText z s

/-! ### leat/leatref10.NBytes -/
noncomputable abbrev iotNBytes : Io := ⟨[dBlobT], [], [], [dNode], none⟩
noncomputable def FtNBytes (d : iotNBytes.In) : Tr iotNBytes.Res := .ret (.ret ((.mk (8, (0, (d.1.1.1, (d.1.1.2.1, ())))) [], ()), ()))
noncomputable abbrev cstNBytes : List (Nat × Hc) := []
noncomputable def hdtNBytes : Hd := hdT cstNBytes
noncomputable def lptNBytes : Lp := lpT []

noncomputable def bodytNBytes (a0 : Bool) (a1 : List Int) : Option iotNBytes.Res := some (Out.ret ((Tre.mk (8, 0, a0, a1, ()) [], ()), ()))
theorem runtNBytes (a0 : Bool) (a1 : List Int) : Io.run tt hdtNBytes dr lptNBytes iotNBytes Go.Proofs.Tryz.f93 (((a0, a1, ()), ()), ()) = bodytNBytes a0 a1 := by kernel_rfl
theorem oktNBytes : HcOk prog 93 (ioHd iotNBytes FtNBytes) := by
  refine fn_sound (n := 400) hm (cs := cstNBytes) HcsOk.nil (lp := lptNBytes) (fn := Go.Proofs.Tryz.f93) (by kernel_rfl) (by kernel_rfl) (by kernel_rfl) iotNBytes (.done (by kernel_rfl)) FtNBytes ?_
  rintro ⟨⟨⟨(z : Bool), (s : List Int), ⟨⟩⟩, ⟨⟩⟩, ⟨⟩⟩ out hw ho
  cases ho
  exact runtNBytes z s

/-! ### leat/leatref10.Rows -/
noncomputable abbrev iotRows : Io := ⟨[dNodes], [], [], [dNode], none⟩
noncomputable def FtRows (d : iotRows.In) : Tr iotRows.Res := .ret (.ret ((.mk (9, (0, (false, (([] : List Int), ())))) d.1.1, ()), ()))
noncomputable abbrev cstRows : List (Nat × Hc) := []
noncomputable def hdtRows : Hd := hdT cstRows
noncomputable def lptRows : Lp := lpT []

noncomputable def bodytRows (a0 : List tNode.den) : Option iotRows.Res := some (Out.ret ((Tre.mk (9, 0, false, [], ()) a0, ()), ()))
theorem runtRows (a0 : List tNode.den) : Io.run tt hdtRows dr lptRows iotRows Go.Proofs.Tryz.f95 ((a0, ()), ()) = bodytRows a0 := by kernel_rfl
theorem oktRows : HcOk prog 95 (ioHd iotRows FtRows) := by
  refine fn_sound (n := 400) hm (cs := cstRows) HcsOk.nil (lp := lptRows) (fn := Go.Proofs.Tryz.f95) (by kernel_rfl) (by kernel_rfl) (by kernel_rfl) iotRows (.done (by kernel_rfl)) FtRows ?_
  rintro ⟨⟨l, ⟨⟩⟩, ⟨⟩⟩ out hw ho
  cases ho
  exact runtRows l

/-! ### leat/leatref10.NameOf -/
noncomputable abbrev iotNameOf : Io := ⟨[dNode], [], [], [dNameT], none⟩
noncomputable def FtNameOf (d : iotNameOf.In) : Tr iotNameOf.Res := .ret (.ret (((d.1.1.lab.2.2.1, (d.1.1.lab.2.2.2.1, ())), ()), ()))
noncomputable abbrev cstNameOf : List (Nat × Hc) := []
noncomputable def hdtNameOf : Hd := hdT cstNameOf
noncomputable def lptNameOf : Lp := lpT []

noncomputable def bodytNameOf (a0 : Tre tLab.den) : Option iotNameOf.Res := some (Out.ret ((a0.1.snd.snd, ()), ()))
theorem runtNameOf (a0 : Tre tLab.den) : Io.run tt hdtNameOf dr lptNameOf iotNameOf Go.Proofs.Tryz.f88 ((a0, ()), ()) = bodytNameOf a0 := by kernel_rfl
theorem oktNameOf : HcOk prog 88 (ioHd iotNameOf FtNameOf) := by
  refine fn_sound (n := 400) hm (cs := cstNameOf) HcsOk.nil (lp := lptNameOf) (fn := Go.Proofs.Tryz.f88) (by kernel_rfl) (by kernel_rfl) (by kernel_rfl) iotNameOf (.done (by kernel_rfl)) FtNameOf ?_
  rintro ⟨⟨(n : Nd), ⟨⟩⟩, ⟨⟩⟩ out hw ho
  cases ho
  exact runtNameOf n

/-! ### leat/leatref10.BlobOf -/
noncomputable abbrev iotBlobOf : Io := ⟨[dNode], [], [], [dBlobT], none⟩
noncomputable def FtBlobOf (d : iotBlobOf.In) : Tr iotBlobOf.Res := .ite (decide (d.1.1.lab.2.2.2.1.length ≤ 4294967296)) (.ret (.ret (((d.1.1.lab.2.2.1, (d.1.1.lab.2.2.2.1, ())), ()), ()))) .no
noncomputable abbrev cstBlobOf : List (Nat × Hc) := [(28, ioHd ioCopy FCopy)]
noncomputable def hdtBlobOf : Hd := hdT cstBlobOf
noncomputable def lptBlobOf : Lp := lpT []

noncomputable def bodytBlobOf (a0 : Tre tLab.den) : Option iotBlobOf.Res := bif decide (List.length a0.1.snd.snd.snd.fst ≤ 4294967296) then some (Out.ret ((a0.1.snd.snd, ()), ())) else none
theorem runtBlobOf (a0 : Tre tLab.den) : Io.run tt hdtBlobOf dr lptBlobOf iotBlobOf Go.Proofs.Tryz.f90 ((a0, ()), ()) = bodytBlobOf a0 := by kernel_rfl
theorem oktBlobOf : HcOk prog 90 (ioHd iotBlobOf FtBlobOf) := by
  refine fn_sound (n := 400) hm (cs := cstBlobOf) (.cons okCopy .nil) (lp := lptBlobOf) (fn := Go.Proofs.Tryz.f90) (by kernel_rfl) (by kernel_rfl) (by kernel_rfl) iotBlobOf (.done (by kernel_rfl)) FtBlobOf ?_
  rintro ⟨⟨(n : Nd), ⟨⟩⟩, ⟨⟩⟩ out hw ho
  obtain ⟨hg, ho⟩ := Tr.guard ho
  have hg : n.lab.2.2.2.1.length ≤ 4294967296 := of_decide_eq_true hg
  cases ho
  refine (runtBlobOf n).trans ?_
  unfold bodytBlobOf
  exact bif_true (by simpa using hg) _ _

/-! ### leat/leatref10.Zero -/
noncomputable abbrev iotZero : Io := ⟨[dNode], [], [], [dB], none⟩
noncomputable def spZeroN (n : Nd) : Bool := if n.lab.2.1 = 0 then (if n.lab.2.2.1 = false then (if n.lab.2.2.2.1.length = 0 then (if n.kids.length = 0 then true else false) else false) else false) else false
noncomputable def FtZero (d : iotZero.In) : Tr iotZero.Res := .ret (.ret ((spZeroN d.1.1, ()), ()))
noncomputable abbrev cstZero : List (Nat × Hc) := []
noncomputable def hdtZero : Hd := hdT cstZero
noncomputable def lptZero : Lp := lpT []

noncomputable def bodytZero (a0 : Tre tLab.den) : Option iotZero.Res := bif a0.1.snd.fst == 0 then bif !a0.1.snd.snd.fst then bif (↑(List.length a0.1.snd.snd.snd.fst) : Int) == 0 then some (Out.ret (((↑a0.2.length : Int) == 0, ()), ())) else some (Out.ret ((false, ()), ())) else some (Out.ret ((false, ()), ())) else some (Out.ret ((false, ()), ()))
theorem runtZero (a0 : Tre tLab.den) : Io.run tt hdtZero dr lptZero iotZero Go.Proofs.Tryz.f128 ((a0, ()), ()) = bodytZero a0 := by kernel_rfl
theorem oktZero : HcOk prog 128 (ioHd iotZero FtZero) := by
  refine fn_sound (n := 400) hm (cs := cstZero) HcsOk.nil (lp := lptZero) (fn := Go.Proofs.Tryz.f128) (by kernel_rfl) (by kernel_rfl) (by kernel_rfl) iotZero (.done (by kernel_rfl)) FtZero ?_
  rintro ⟨⟨(n : Nd), ⟨⟩⟩, ⟨⟩⟩ out hw ho
  cases ho
  refine (runtZero n).trans ?_
  unfold bodytZero
  show _ = some (Out.ret ((spZeroN n, ()), ()))
  unfold spZeroN
  simp only [cond_eq_ite]
  repeat' split
  all_goals simp_all

/-! ### leat/leatref10.here -/
noncomputable abbrev iotHere1 : Io := ⟨[dFld, dI], [], [], [dB], none⟩
noncomputable def spHas (f : Fd) (v : Int) : Bool := if f.lab.2.2.1 ≤ v ∧ v ≤ f.lab.2.2.2.1 then true else false
noncomputable def FtHere1 (d : iotHere1.In) : Tr iotHere1.Res := .ret (.ret ((spHas d.1.1 d.1.2.1, ()), ()))
noncomputable abbrev cstHere1 : List (Nat × Hc) := []
noncomputable def hdtHere1 : Hd := hdT cstHere1
noncomputable def lptHere1 : Lp := lpT []

noncomputable def bodytHere1 (a0 : Tre tFl.den) (a1 : Int) : Option iotHere1.Res := bif decide (a0.1.snd.snd.fst ≤ a1) then some (Out.ret ((decide (a1 ≤ a0.1.snd.snd.snd.fst), ()), ())) else some (Out.ret ((false, ()), ()))
theorem runtHere1 (a0 : Tre tFl.den) (a1 : Int) : Io.run tt hdtHere1 dr lptHere1 iotHere1 Go.Proofs.Tryz.f127 ((a0, a1, ()), ()) = bodytHere1 a0 a1 := by kernel_rfl
theorem oktHere1 : HcOk prog 127 (ioHd iotHere1 FtHere1) := by
  refine fn_sound (n := 400) hm (cs := cstHere1) HcsOk.nil (lp := lptHere1) (fn := Go.Proofs.Tryz.f127) (by kernel_rfl) (by kernel_rfl) (by kernel_rfl) iotHere1 (.done (by kernel_rfl)) FtHere1 ?_
  rintro ⟨⟨(f : Fd), (v : Int), ⟨⟩⟩, ⟨⟩⟩ out hw ho
  cases ho
  refine (runtHere1 f v).trans ?_
  unfold bodytHere1
  show _ = some (Out.ret ((spHas f v, ()), ()))
  unfold spHas
  simp only [cond_eq_ite]
  repeat' split
  all_goals simp_all

/-! ### leat/leatref10.width -/
noncomputable abbrev iotWidth : Io := ⟨[dI], [], [], [dI], none⟩
noncomputable def spWid (k : Int) : Int := if k = 1 then 1 else if k = 2 ∨ k = 5 ∨ k = 6 then 2 else if k = 4 then 8 else 4
noncomputable def FtWidth (d : iotWidth.In) : Tr iotWidth.Res := .ret (.ret ((spWid d.1.1, ()), ()))
noncomputable abbrev cstWidth : List (Nat × Hc) := []
noncomputable def hdtWidth : Hd := hdT cstWidth
noncomputable def lptWidth : Lp := lpT []

noncomputable def bodytWidth (a0 : Int) : Option iotWidth.Res := bif a0 == 1 then some (Out.ret ((1, ()), ())) else bif a0 == 2 then bif a0 == 2 then some (Out.ret ((2, ()), ())) else bif a0 == 4 then some (Out.ret ((8, ()), ())) else some (Out.ret ((4, ()), ())) else bif a0 == 5 then bif a0 == 5 then some (Out.ret ((2, ()), ())) else bif a0 == 4 then some (Out.ret ((8, ()), ())) else some (Out.ret ((4, ()), ())) else bif a0 == 6 then some (Out.ret ((2, ()), ())) else bif a0 == 4 then some (Out.ret ((8, ()), ())) else some (Out.ret ((4, ()), ()))
theorem runtWidth (a0 : Int) : Io.run tt hdtWidth dr lptWidth iotWidth Go.Proofs.Tryz.f154 ((a0, ()), ()) = bodytWidth a0 := by kernel_rfl
theorem oktWidth : HcOk prog 154 (ioHd iotWidth FtWidth) := by
  refine fn_sound (n := 400) hm (cs := cstWidth) HcsOk.nil (lp := lptWidth) (fn := Go.Proofs.Tryz.f154) (by kernel_rfl) (by kernel_rfl) (by kernel_rfl) iotWidth (.done (by kernel_rfl)) FtWidth ?_
  rintro ⟨⟨(k : Int), ⟨⟩⟩, ⟨⟩⟩ out hw ho
  cases ho
  refine (runtWidth k).trans ?_
  unfold bodytWidth
  show _ = some (Out.ret ((spWid k, ()), ()))
  unfold spWid
  simp only [cond_eq_ite]
  repeat' split
  all_goals simp_all

/-! ### leat/leatref10.shape -/
noncomputable abbrev iotShape : Io := ⟨[dFld, dNode], [], [], [dB], none⟩
noncomputable def spShN (k : Int) (n : Nd) : Bool :=
  if n.lab.1 ≠ k then false else if 4 < k ∧ n.lab.2.1 ≠ 0 then false else if (k < 5 ∨ 8 < k) ∧ 0 < n.lab.2.2.2.1.length then false else if k ≠ 6 ∧ k ≠ 8 ∧ n.lab.2.2.1 = true then false else if 8 < k ∨ n.kids.length = 0 then true else false
noncomputable def FtShape (d : iotShape.In) : Tr iotShape.Res := .ret (.ret ((spShN d.1.1.lab.2.1 d.1.2.1, ()), ()))
noncomputable abbrev cstShape : List (Nat × Hc) := []
noncomputable def hdtShape : Hd := hdT cstShape
noncomputable def lptShape : Lp := lpT []

noncomputable def bodytShape (a0 : Tre tFl.den) (a1 : Tre tLab.den) : Option iotShape.Res := bif a1.1.fst != a0.1.snd.fst then some (Out.ret ((false, ()), ())) else bif decide (4 < a0.1.snd.fst) then bif a1.1.snd.fst != 0 then some (Out.ret ((false, ()), ())) else bif decide (a0.1.snd.fst < 5) then bif decide (0 < (↑(List.length a1.1.snd.snd.snd.fst) : Int)) then some (Out.ret ((false, ()), ())) else bif a0.1.snd.fst != 6 then bif a0.1.snd.fst != 8 then bif a1.1.snd.snd.fst then some (Out.ret ((false, ()), ())) else bif decide (8 < a0.1.snd.fst) then some (Out.ret ((true, ()), ())) else some (Out.ret (((↑a1.2.length : Int) == 0, ()), ())) else bif decide (8 < a0.1.snd.fst) then some (Out.ret ((true, ()), ())) else some (Out.ret (((↑a1.2.length : Int) == 0, ()), ())) else bif decide (8 < a0.1.snd.fst) then some (Out.ret ((true, ()), ())) else some (Out.ret (((↑a1.2.length : Int) == 0, ()), ())) else bif decide (8 < a0.1.snd.fst) then bif decide (0 < (↑(List.length a1.1.snd.snd.snd.fst) : Int)) then some (Out.ret ((false, ()), ())) else bif a0.1.snd.fst != 6 then bif a0.1.snd.fst != 8 then bif a1.1.snd.snd.fst then some (Out.ret ((false, ()), ())) else bif decide (8 < a0.1.snd.fst) then some (Out.ret ((true, ()), ())) else some (Out.ret (((↑a1.2.length : Int) == 0, ()), ())) else bif decide (8 < a0.1.snd.fst) then some (Out.ret ((true, ()), ())) else some (Out.ret (((↑a1.2.length : Int) == 0, ()), ())) else bif decide (8 < a0.1.snd.fst) then some (Out.ret ((true, ()), ())) else some (Out.ret (((↑a1.2.length : Int) == 0, ()), ())) else bif a0.1.snd.fst != 6 then bif a0.1.snd.fst != 8 then bif a1.1.snd.snd.fst then some (Out.ret ((false, ()), ())) else bif decide (8 < a0.1.snd.fst) then some (Out.ret ((true, ()), ())) else some (Out.ret (((↑a1.2.length : Int) == 0, ()), ())) else bif decide (8 < a0.1.snd.fst) then some (Out.ret ((true, ()), ())) else some (Out.ret (((↑a1.2.length : Int) == 0, ()), ())) else bif decide (8 < a0.1.snd.fst) then some (Out.ret ((true, ()), ())) else some (Out.ret (((↑a1.2.length : Int) == 0, ()), ())) else bif decide (a0.1.snd.fst < 5) then bif decide (0 < (↑(List.length a1.1.snd.snd.snd.fst) : Int)) then some (Out.ret ((false, ()), ())) else bif a0.1.snd.fst != 6 then bif a0.1.snd.fst != 8 then bif a1.1.snd.snd.fst then some (Out.ret ((false, ()), ())) else bif decide (8 < a0.1.snd.fst) then some (Out.ret ((true, ()), ())) else some (Out.ret (((↑a1.2.length : Int) == 0, ()), ())) else bif decide (8 < a0.1.snd.fst) then some (Out.ret ((true, ()), ())) else some (Out.ret (((↑a1.2.length : Int) == 0, ()), ())) else bif decide (8 < a0.1.snd.fst) then some (Out.ret ((true, ()), ())) else some (Out.ret (((↑a1.2.length : Int) == 0, ()), ())) else bif decide (8 < a0.1.snd.fst) then bif decide (0 < (↑(List.length a1.1.snd.snd.snd.fst) : Int)) then some (Out.ret ((false, ()), ())) else bif a0.1.snd.fst != 6 then bif a0.1.snd.fst != 8 then bif a1.1.snd.snd.fst then some (Out.ret ((false, ()), ())) else bif decide (8 < a0.1.snd.fst) then some (Out.ret ((true, ()), ())) else some (Out.ret (((↑a1.2.length : Int) == 0, ()), ())) else bif decide (8 < a0.1.snd.fst) then some (Out.ret ((true, ()), ())) else some (Out.ret (((↑a1.2.length : Int) == 0, ()), ())) else bif decide (8 < a0.1.snd.fst) then some (Out.ret ((true, ()), ())) else some (Out.ret (((↑a1.2.length : Int) == 0, ()), ())) else bif a0.1.snd.fst != 6 then bif a0.1.snd.fst != 8 then bif a1.1.snd.snd.fst then some (Out.ret ((false, ()), ())) else bif decide (8 < a0.1.snd.fst) then some (Out.ret ((true, ()), ())) else some (Out.ret (((↑a1.2.length : Int) == 0, ()), ())) else bif decide (8 < a0.1.snd.fst) then some (Out.ret ((true, ()), ())) else some (Out.ret (((↑a1.2.length : Int) == 0, ()), ())) else bif decide (8 < a0.1.snd.fst) then some (Out.ret ((true, ()), ())) else some (Out.ret (((↑a1.2.length : Int) == 0, ()), ()))
theorem runtShape (a0 : Tre tFl.den) (a1 : Tre tLab.den) : Io.run tt hdtShape dr lptShape iotShape Go.Proofs.Tryz.f130 ((a0, a1, ()), ()) = bodytShape a0 a1 := by kernel_rfl
theorem oktShape : HcOk prog 130 (ioHd iotShape FtShape) := by
  refine fn_sound (n := 400) hm (cs := cstShape) HcsOk.nil (lp := lptShape) (fn := Go.Proofs.Tryz.f130) (by kernel_rfl) (by kernel_rfl) (by kernel_rfl) iotShape (.done (by kernel_rfl)) FtShape ?_
  rintro ⟨⟨(f : Fd), (n : Nd), ⟨⟩⟩, ⟨⟩⟩ out hw ho
  cases ho
  refine (runtShape f n).trans ?_
  unfold bodytShape
  show _ = some (Out.ret ((spShN f.lab.2.1 n, ()), ()))
  unfold spShN
  obtain ⟨⟨nm, k, lo, hi, ⟨⟩⟩, e⟩ := f
  obtain ⟨⟨k', m, z, d, ⟨⟩⟩, l⟩ := n
  have hc : ∀ (c a b : Bool), (bif c then (some (Out.ret ((a, ()), ())) : Option iotShape.Res) else some (Out.ret ((b, ()), ()))) = some (Out.ret ((bif c then a else b, ()), ())) := by intro c a b; cases c <;> rfl
  simp only [hc]
  refine congrArg (fun b : Bool => some (Out.ret ((b, ()), ()))) ?_
  simp only [cond_eq_ite]
  grind

/-! ### leat/leatref10.Here -/
noncomputable abbrev iotHere : Io := ⟨[dFlds, dI], [], [], [dFldsO], none⟩
noncomputable def spHere (l : List Fd) (v : Int) : List Fd := l.filter fun f => spHas f v
noncomputable def FtHere (d : iotHere.In) : Tr iotHere.Res := .ite (decide (d.1.1.length ≤ 4294967296)) (.ret (.ret ((spHere d.1.1 d.1.2.1, ()), ()))) .no
noncomputable abbrev cstHere : List (Nat × Hc) := [(127, ioHd iotHere1 FtHere1)]
noncomputable def hdtHere : Hd := hdT cstHere
noncomputable abbrev lotHere_4 : Lo := ⟨⟨[.one (.hol (.sl 159 ((Ty.str.prod ((Ty.int IntKind.i64).prod ((Ty.int IntKind.i64).prod ((Ty.int IntKind.i64).prod Ty.unit)))).tree 159))), .one (.hol (.int IntKind.i64)), .any, .any, .any, .one (.onl 159 ((Ty.str.prod ((Ty.int IntKind.i64).prod ((Ty.int IntKind.i64).prod ((Ty.int IntKind.i64).prod Ty.unit)))).tree 159) 11), .one (.hol (.int IntKind.i64)), .any, .any, .any, .any, .any, .any, .any, .any, .any, .any, .any, .any, .any, .any, .any, .any, .any, .any, .any, .any, .any], []⟩, [(.exit 0, ⟨[.any, .any, .any, .any, .any, .one (.onl 159 ((Ty.str.prod ((Ty.int IntKind.i64).prod ((Ty.int IntKind.i64).prod ((Ty.int IntKind.i64).prod Ty.unit)))).tree 159) 11), .any, .any, .any, .any, .any, .any, .any, .any, .any, .any, .any, .any, .any, .any, .any, .any, .any, .any, .any, .any, .any, .any], []⟩)]⟩
-- FtHere_4 : lotHere_4.st.den → Tr (DenX lotHere_4.xs) | ((h2, (h3, (h4, (h5, ())))), ())
noncomputable def FtHere_4 (d : lotHere_4.st.den) : Tr (DenX lotHere_4.xs) :=
  .ite (decide (d.1.2.2.1.length = 0) && (decide (d.1.2.2.2.1 = 0) && decide (d.1.1.length ≤ 4294967296))) (.ret (.ret ((), ((spHere d.1.1 d.1.2.1, ()), ())))) .no
noncomputable def lptHere : Lp := lpT [(4, loHd lotHere_4 FtHere_4)]
noncomputable def steptHere_4 {R : Type} (h2 : List tFld.den) (h3 : Int) (h4 : List ((Ty.str.prod ((Ty.int IntKind.i64).prod ((Ty.int IntKind.i64).prod ((Ty.int IntKind.i64).prod Ty.unit)))).tree 159).den) (h5 : Int) (next : List tFld.den → Int → List ((Ty.str.prod ((Ty.int IntKind.i64).prod ((Ty.int IntKind.i64).prod ((Ty.int IntKind.i64).prod Ty.unit)))).tree 159).den → Int → Option R) (out : DenX lotHere_4.xs → Option R) : Option R := bif decide (h5 < (↑h2.length : Int)) then bif decide (0 ≤ h5) && decide (h5 < (↑h2.length : Int)) then bif spHas (Tre.mk (h2.getD h5.toNat (Tre.mk ([], 0, 0, 0, ()) [])).1 (h2.getD h5.toNat (Tre.mk ([], 0, 0, 0, ()) [])).2) h3 then bif decide (0 ≤ h5) && decide (h5 < (↑h2.length : Int)) then bif decide (h4.length + [Tre.mk (h2.getD h5.toNat (Tre.mk ([], 0, 0, 0, ()) [])).1 (h2.getD h5.toNat (Tre.mk ([], 0, 0, 0, ()) [])).2].length ≤ 4294967296) then next (h2) (h3) (h4 ++ [Tre.mk (h2.getD h5.toNat (Tre.mk ([], 0, 0, 0, ()) [])).1 (h2.getD h5.toNat (Tre.mk ([], 0, 0, 0, ()) [])).2]) (IntKind.i64.wrap (h5 + 1)) else none else none else next (h2) (h3) (h4) (IntKind.i64.wrap (h5 + 1)) else none else out (.ret ((), ((h4, ()), ())))
noncomputable def ittHere_4 (n : Nat) (h2 : List tFld.den) (h3 : Int) (h4 : List ((Ty.str.prod ((Ty.int IntKind.i64).prod ((Ty.int IntKind.i64).prod ((Ty.int IntKind.i64).prod Ty.unit)))).tree 159).den) (h5 : Int) : Option (DenX lotHere_4.xs) := lpN tt hdtHere dr lptHere 0 Go.Proofs.Tryz.f144 (topL Go.Proofs.Tryz.f144 0) n (lotHere_4.st.mk' ((h2, (h3, (h4, (h5, ())))), ())) (decX lotHere_4.xs)
theorem sltHere_4 (n : Nat) (h2 : List tFld.den) (h3 : Int) (h4 : List ((Ty.str.prod ((Ty.int IntKind.i64).prod ((Ty.int IntKind.i64).prod ((Ty.int IntKind.i64).prod Ty.unit)))).tree 159).den) (h5 : Int) : ittHere_4 (n + 1) h2 h3 h4 h5 = steptHere_4 h2 h3 h4 h5 (ittHere_4 n) some := by kernel_rfl
theorem fd_eta (f : Fd) : Tre.mk f.lab f.kids = f := by cases f; rfl
theorem nd_eta (f : Nd) : Tre.mk f.lab f.kids = f := by cases f; rfl
theorem looptHere {l : List Fd} (v : Int) (hl : l.length ≤ 4294967296) : ∀ (k j : Nat) (o : List Fd), l.length < j + k → j ≤ l.length → o.length ≤ j →
    ittHere_4 k l v o j = some (.ret ((), ((o ++ spHere (l.drop j) v, ()), ()))) := by
  intro k
  induction k with
  | zero => intro j o h1 h2 h3; omega
  | succ k ih =>
    intro j o h1 h2 h3
    rw [sltHere_4]
    unfold steptHere_4
    by_cases hj : j < l.length
    · refine (bif_true (decide_eq_true (show (j : Int) < (l.length : Int) by omega)) _ _).trans ?_
      refine (bif_true (by simp; omega) _ _).trans ?_
      have hg : List.getD l ((j : Int)).toNat (Tre.mk (([] : List Int), (0 : Int), (0 : Int), (0 : Int), ()) ([] : List Fd)) = l[j] := by simp only [Int.toNat_natCast]; exact getD_lt hj
      simp only [hg]
      rw [wrap_i64 (n := (j : Int) + 1) (by omega) (by omega)]
      have hd : l.drop j = l[j] :: l.drop (j + 1) := List.drop_eq_getElem_cons hj
      generalize l[j] = x at hd ⊢
      obtain ⟨a, ks⟩ := x
      by_cases hh : spHas (Tre.mk a ks) v = true
      · refine (bif_true hh _ _).trans ?_
        refine (bif_true (by simp; omega) _ _).trans ?_
        refine (bif_true (decide_eq_true (show o.length + 1 ≤ 4294967296 by omega)) _ _).trans ?_
        refine (ih (j + 1) (o ++ [Tre.mk a ks]) (by omega) (by omega) (by simp; omega)).trans ?_
        rw [hd]
        simp [spHere, hh]
      · have hh : spHas (Tre.mk a ks) v = false := by simpa using hh
        refine (bif_false hh _ _).trans ?_
        refine (ih (j + 1) o (by omega) (by omega) (by omega)).trans ?_
        rw [hd]
        simp [spHere, hh]
    · refine (bif_false (decide_eq_false (show ¬ (j : Int) < (l.length : Int) by omega)) _ _).trans ?_
      rw [List.drop_of_length_le (by omega)]
      simp [spHere]
noncomputable def bodytHere (a0 : List tFld.den) (a1 : Int) : Option iotHere.Res := (FtHere_4 ((a0, (a1, ([], (0, ())))), ())).run fun y => match y with | .ret ((), ((x15, ()), ())) => (some (Out.ret ((x15, ()), ())))
theorem runtHere (a0 : List tFld.den) (a1 : Int) : Io.run tt hdtHere dr lptHere iotHere Go.Proofs.Tryz.f144 ((a0, a1, ()), ()) = bodytHere a0 a1 := by kernel_rfl
theorem oktHere : HcOk prog 144 (ioHd iotHere FtHere) := by
  refine fn_sound (n := 400) hm (cs := cstHere) (.cons oktHere1 .nil) (lp := lptHere) (fn := Go.Proofs.Tryz.f144) (by kernel_rfl) (by kernel_rfl) (by kernel_rfl) iotHere (.step (h0 := loHd lotHere_4 FtHere_4) (by kernel_rfl) (loop_sound (n := 400) hm (cs := cstHere) (.cons oktHere1 .nil) (lp := lptHere) (fn := Go.Proofs.Tryz.f144) (.done (by kernel_rfl)) lotHere_4 FtHere_4 ?_) (.done (by kernel_rfl))) FtHere ?_
  · rintro ⟨⟨(l : List Fd), (v : Int), (o : List Fd), (i : Int), ⟨⟩⟩, ⟨⟩⟩ y hw hy
    obtain ⟨hg, hy⟩ := Tr.guard hy
    simp only [Bool.and_eq_true, decide_eq_true_eq] at hg
    obtain ⟨h1, h2, h3⟩ := hg
    have h1 : o = [] := List.eq_nil_of_length_eq_zero h1
    have h2 : i = 0 := h2
    have h3 : l.length ≤ 4294967296 := h3
    subst h1
    subst h2
    refine ⟨l.length + 1, (looptHere v h3 (l.length + 1) 0 [] (by omega) (by omega) (by simp)).trans ?_⟩
    rw [← hy]; rfl
  · rintro ⟨⟨(l : List Fd), (v : Int), ⟨⟩⟩, ⟨⟩⟩ out hw ho
    obtain ⟨hg, ho⟩ := Tr.guard ho
    have hg : l.length ≤ 4294967296 := of_decide_eq_true hg
    cases ho
    refine (runtHere l v).trans ?_
    unfold bodytHere
    have e : FtHere_4 ((l, (v, (([] : List Fd), (0, ())))), ()) = .ite true (.ret (.ret ((), ((spHere l v, ()), ())))) .no := congrArg (fun c => Tr.ite c _ _) (by simp [hg])
    rw [e]
    rfl
end
end Go.Proofs.YtmlgepgcofmpeaaGreat.Sym

/- leatref10.Alike, Twin. -/
namespace Go.Proofs.YtmlgepgcofmpeaaGreat.Sym
open Go
set_option linter.unusedSimpArgs false
set_option linter.unusedVariables false

/-! ### functions that call themselves -/
structure FuT where
  n : Nat
/-- How deep a call may yet go. -/
@[irreducible] noncomputable def spFuel [i : Inhabited FuT] : Nat := i.default.n
mutual
def Tre.wt {α : Type} (f : α → Nat) : Tre α → Nat
  | .mk l ks => 1 + f l + Tre.wts f ks
def Tre.wts {α : Type} (f : α → Nat) : List (Tre α) → Nat
  | [] => 0
  | k :: ks => k.wt f + Tre.wts f ks
end
theorem Tre.wt_pos {α : Type} (f : α → Nat) (t : Tre α) : 1 ≤ t.wt f := by cases t; simp only [Tre.wt]; omega
theorem Tre.wts_len {α : Type} (f : α → Nat) : ∀ l : List (Tre α), l.length ≤ Tre.wts f l
  | [] => Nat.zero_le _
  | k :: ks => by
    have h1 := k.wt_pos f
    have h2 := Tre.wts_len f ks
    simp only [Tre.wts, List.length_cons]; omega
theorem Tre.wts_mem {α : Type} {f : α → Nat} {k : Tre α} : ∀ {l : List (Tre α)}, k ∈ l → k.wt f ≤ Tre.wts f l
  | k' :: ks, h => by
    simp only [Tre.wts]
    rcases List.mem_cons.1 h with rfl | h
    · omega
    · have := Tre.wts_mem (f := f) h; omega
theorem Tre.wt_eq {α : Type} (f : α → Nat) (t : Tre α) : t.wt f = 1 + f t.lab + Tre.wts f t.kids := by cases t; rfl

noncomputable section
/-- A tree's weight: its nodes and its bytes. -/
@[irreducible] noncomputable def spWt (n : Nd) : Nat := n.wt fun l => l.2.2.2.1.length
@[irreducible] noncomputable def spWts (l : List Nd) : Nat := Tre.wts (fun l => l.2.2.2.1.length) l
theorem spWt_eq (n : Nd) : spWt n = 1 + n.lab.2.2.2.1.length + spWts n.kids := by unfold spWt spWts; exact Tre.wt_eq _ n
theorem spWt_mem {k : Nd} {l : List Nd} (h : k ∈ l) : spWt k ≤ spWts l := by unfold spWt spWts; exact Tre.wts_mem h
theorem spWts_len (l : List Nd) : l.length ≤ spWts l := by unfold spWts; exact Tre.wts_len _ l
open Classical in
noncomputable def spEqN (a b : Nd) : Bool := if a = b then true else false
open Classical in
noncomputable def spEqNs (a b : List Nd) : Bool := if a = b then true else false
theorem spEqN_iff {a b : Nd} : spEqN a b = true ↔ a = b := by unfold spEqN; split <;> simp_all
theorem spEqNs_iff {a b : List Nd} : spEqNs a b = true ↔ a = b := by unfold spEqNs; split <;> simp_all

theorem FuT.val (n : Nat) : @spFuel ⟨⟨n⟩⟩ = n := by unfold spFuel; rfl
theorem HcOk.none {f : Nat} {fn : Func} (hf : prog.funcs[f]? = some fn) (hname : (fn.name == "runtime.NumGoroutine") = false) (hbody : fn.body.isNone = false) (io : Io) (Fn : io.In → Tr io.Res) (hn : ∀ d out, (Fn d).val ≠ some out) : HcOk prog f (ioHd io Fn) :=
  io_soundG (ttOf_ok prog 400) hf hname io Fn (fun d out _ h => absurd h (hn d out)) hbody
theorem Tr.val_run {α R : Type} : ∀ {t : Tr α} {K : α → Option R} {a : α}, t.val = some a → t.run K = K a
  | .ret a, K, b, h => by simp only [Tr.val, Tr.run, Option.some.injEq] at h; subst h; rfl
  | .no, K, b, h => by cases h
  | .ite c t e, K, b, h => by
    cases c with
    | true => exact Tr.val_run (t := t) h
    | false => exact Tr.val_run (t := e) h
/-- What holds however deep the calls go. -/
theorem HcOk.lim {f : Nat} {io : Io} {Fs : Nat → io.In → Tr io.Res} {Fn : io.In → Tr io.Res} (h : ∀ n, HcOk prog f (ioHd io (Fs n))) (hF : ∀ d, ∃ n, ∀ out, (Fn d).val = some out → (Fs n d).val = some out) : HcOk prog f (ioHd io Fn) := by
  intro R args id A K r F G ts cst w vals hid hc Rl hv
  unfold ioHd at hc
  cases h1 : mVs io.args args (List.replicate io.obs.length Option.none) with
  | none => rw [h1] at hc; cases hc
  | some p =>
    obtain ⟨a, β1⟩ := p
    rw [h1] at hc
    simp only at hc
    cases h2 : mOb A.ob io.obs 0 β1 with
    | none => rw [h2] at hc; cases hc
    | some q =>
      obtain ⟨o, β⟩ := q
      rw [h2] at hc
      simp only at hc
      obtain ⟨n, hn⟩ := hF (a, o)
      refine h n R args id A K r F G ts cst w vals hid ?_ Rl hv
      unfold ioHd
      rw [h1]
      simp only [h2]
      revert hc
      cases nodupB ((owVs (idTmp 0) io.args args 0 ++ owOb A.ob β (bnId io.obs.length 0) io.obs 0).map (·.2)) && (nodupB ((owVs (idTmp 0) io.args args 0 ++ owOb A.ob β (bnId io.obs.length 0) io.obs 0).map (·.1)) && io.ok) with
      | false => intro hc; cases hc
      | true =>
        intro hc
        obtain ⟨out, ho, hk⟩ := Tr.run_val hc
        exact (Tr.val_run (hn out ho)).trans hk
theorem spWt_pos (n : Nd) : 1 ≤ spWt n := by rw [spWt_eq]; omega
theorem spEqN_mk {a b c d : Int} {z z' : Bool} {x y : List Int} {l m : List Nd} : spEqN (.mk (a, (c, (z, (x, ())))) l) (.mk (b, (d, (z', (y, ())))) m) = true ↔ a = b ∧ c = d ∧ z = z' ∧ x = y ∧ l = m := by
  rw [spEqN_iff]
  constructor
  · intro h
    injection h with h1 h2
    injection h1 with h3 h4
    injection h4 with h5 h6
    injection h6 with h7 h8
    injection h8 with h9 h10
    exact ⟨h3, h5, h7, h9, h2⟩
  · rintro ⟨rfl, rfl, rfl, rfl, rfl⟩; rfl
/-! ### leat/leatref10.Alike -/
noncomputable abbrev iotAlike : Io := ⟨[dNode, dNode], [], [], [dB], none⟩
noncomputable def FtAlikeN (n : Nat) (d : iotAlike.In) : Tr iotAlike.Res := .ite (decide (spWt d.1.1 < n)) (.ret (.ret ((spEqN d.1.1 d.1.2.1, ()), ()))) .no
noncomputable def FtAlike (d : iotAlike.In) : Tr iotAlike.Res := .ret (.ret ((spEqN d.1.1 d.1.2.1, ()), ()))
section
variable [Inhabited FuT]
noncomputable abbrev cstAlike : List (Nat × Hc) := [(31, ioHd ioSame FSame), (49, ioHd iotAlike (FtAlikeN spFuel))]
noncomputable def hdtAlike : Hd := hdT cstAlike
noncomputable abbrev lotAlike_5 : Lo := ⟨⟨[.any, .any, .one (.ptr 2 0), .one (.ptr 3 0), .any, .one (.hol (.int IntKind.i64)), .any, .any, .any, .any, .any, .any, .any, .any, .any, .any, .any, .any, .any, .any, .any, .any, .any, .any, .any, .any, .any, .any, .any, .any, .any, .any, .any, .any, .any, .any, .any, .any, .any, .any, .any, .any, .any, .any, .any, .any, .any, .any, .any, .any, .any, .any, .any, .any, .any, .any, .any, .any, .any, .any, .any], [none, none, some [.hol (.int IntKind.i64), .hol (.int IntKind.i64), .hol .bool, .hol (.sl 5 (Ty.int IntKind.u8)), .hol (.sl 68 tNode)], some [.hol (.int IntKind.i64), .hol (.int IntKind.i64), .hol .bool, .hol (.sl 5 (Ty.int IntKind.u8)), .hol (.sl 68 tNode)]]⟩, [(.ret, ⟨[.any, .any, .any, .any, .one (.hol .bool), .any, .any, .any, .any, .any, .any, .any, .any, .any, .any, .any, .any, .any, .any, .any, .any, .any, .any, .any, .any, .any, .any, .any, .any, .any, .any, .any, .any, .any, .any, .any, .any, .any, .any, .any, .any, .any, .any, .any, .any, .any, .any, .any, .any, .any, .any, .any, .any, .any, .any, .any, .any, .any, .any, .any, .any], []⟩), (.exit 0, ⟨[.any, .any, .any, .any, .any, .any, .any, .any, .any, .any, .any, .any, .any, .any, .any, .any, .any, .any, .any, .any, .any, .any, .any, .any, .any, .any, .any, .any, .any, .any, .any, .any, .any, .any, .any, .any, .any, .any, .any, .any, .any, .any, .any, .any, .any, .any, .any, .any, .any, .any, .any, .any, .any, .any, .any, .any, .any, .any, .any, .any, .any], []⟩)]⟩
-- FtAlike_5 : lotAlike_5.st.den → Tr (DenX lotAlike_5.xs) | ((h2, ()), ((h3, (h4, (h5, (h6, (h7, ()))))), ((h8, (h9, (h10, (h11, (h12, ()))))), ())))
noncomputable def FtAlike_5 (d : lotAlike_5.st.den) : Tr (DenX lotAlike_5.xs) :=
  .ite (decide (d.1.1 = 0) && (decide (d.2.1.2.2.2.2.1.length = d.2.2.1.2.2.2.2.1.length) && decide (spWts d.2.1.2.2.2.2.1 < spFuel))) (.ite (spEqNs d.2.1.2.2.2.2.1 d.2.2.1.2.2.2.2.1) (.ret (.pan (.ret ((), ((), ()))))) (.ret (.ret ((), ((false, ()), ()))))) .no
noncomputable def lptAlike : Lp := lpT [(5, loHd lotAlike_5 FtAlike_5)]
noncomputable def steptAlike_5 {R : Type} (h2 : Int) (h3 : Int) (h4 : Int) (h5 : Bool) (h6 : List Int) (h7 : List (Nd)) (h8 : Int) (h9 : Int) (h10 : Bool) (h11 : List Int) (h12 : List (Nd)) (next : Int → Int → Int → Bool → List Int → List (Nd) → Int → Int → Bool → List Int → List (Nd) → Option R) (out : DenX lotAlike_5.xs → Option R) : Option R := bif decide (h2 < (↑h7.length : Int)) then bif decide (0 ≤ h2) && decide (h2 < (↑h7.length : Int)) then bif decide (0 ≤ h2) && decide (h2 < (↑h12.length : Int)) then bif decide (spWt (Tre.mk (h7.getD h2.toNat (Tre.mk (0, 0, false, [], ()) [])).1 (h7.getD h2.toNat (Tre.mk (0, 0, false, [], ()) [])).2) < spFuel) then bif !spEqN (Tre.mk (h7.getD h2.toNat (Tre.mk (0, 0, false, [], ()) [])).1 (h7.getD h2.toNat (Tre.mk (0, 0, false, [], ()) [])).2) (Tre.mk (h12.getD h2.toNat (Tre.mk (0, 0, false, [], ()) [])).1 (h12.getD h2.toNat (Tre.mk (0, 0, false, [], ()) [])).2) then out (.ret ((), ((false, ()), ()))) else next (IntKind.i64.wrap (h2 + 1)) (h3) (h4) (h5) (h6) (h7) (h8) (h9) (h10) (h11) (h12) else none else none else none else out (.pan (.ret ((), ((), ()))))
noncomputable def ittAlike_5 (n : Nat) (h2 : Int) (h3 : Int) (h4 : Int) (h5 : Bool) (h6 : List Int) (h7 : List (Nd)) (h8 : Int) (h9 : Int) (h10 : Bool) (h11 : List Int) (h12 : List (Nd)) : Option (DenX lotAlike_5.xs) := lpN tt hdtAlike dr lptAlike 0 Go.Proofs.Tryz.f49 (topL Go.Proofs.Tryz.f49 0) n (lotAlike_5.st.mk' ((h2, ()), ((h3, (h4, (h5, (h6, (h7, ()))))), ((h8, (h9, (h10, (h11, (h12, ()))))), ())))) (decX lotAlike_5.xs)
theorem sltAlike_5 (n : Nat) (h2 : Int) (h3 : Int) (h4 : Int) (h5 : Bool) (h6 : List Int) (h7 : List (Nd)) (h8 : Int) (h9 : Int) (h10 : Bool) (h11 : List Int) (h12 : List (Nd)) : ittAlike_5 (n + 1) h2 h3 h4 h5 h6 h7 h8 h9 h10 h11 h12 = steptAlike_5 h2 h3 h4 h5 h6 h7 h8 h9 h10 h11 h12 (ittAlike_5 n) some := by kernel_rfl
theorem looptAlike {l m : List Nd} (hlm : l.length = m.length) (hl : l.length ≤ maxLen) (hw : spWts l < spFuel) (a b c d : Int) (z z' : Bool) (x y : List Int) : ∀ (k j : Nat), l.length < j + k → j ≤ l.length → l.take j = m.take j →
    ittAlike_5 k j a b z x l c d z' y m = if spEqNs l m = true then some (.pan (.ret ((), ((), ())))) else some (.ret ((), ((false, ()), ()))) := by
  intro k
  induction k with
  | zero => intro j h1 h2; omega
  | succ k ih =>
    intro j h1 h2 h3
    rw [sltAlike_5]
    unfold steptAlike_5
    by_cases hj : j < l.length
    · have hj' : j < m.length := by omega
      refine (bif_true (decide_eq_true (show (j : Int) < (l.length : Int) by omega)) _ _).trans ?_
      refine (bif_true (by simp; omega) _ _).trans ?_
      refine (bif_true (by simp; omega) _ _).trans ?_
      rw [wrap_succ hj hl]
      have hmem := spWt_mem (List.getElem_mem hj)
      have ht : l.take (j + 1) = m.take (j + 1) ↔ l[j] = m[j] := by
        rw [List.take_succ_eq_append_getElem hj, List.take_succ_eq_append_getElem hj', h3]
        exact ⟨fun h => by have := (List.append_inj' h rfl).2; injection this, fun h => by rw [h]⟩
      have hne : l[j] ≠ m[j] → l ≠ m := fun h e => h (by subst e; rfl)
      have ih' := ih (j + 1) (by omega) (by omega)
      simp only [Int.toNat_natCast, getD_lt hj, getD_lt hj']
      generalize l[j] = u at hmem ht hne ⊢
      generalize m[j] = v at ht hne ⊢
      obtain ⟨ul, uk⟩ := u
      obtain ⟨vl, vk⟩ := v
      refine (bif_true (decide_eq_true (show spWt (Tre.mk ul uk) < spFuel by omega)) _ _).trans ?_
      by_cases he : spEqN (Tre.mk ul uk) (Tre.mk vl vk) = true
      · refine (bif_false (show (!spEqN (Tre.mk ul uk) (Tre.mk vl vk)) = false by rw [he]; rfl) _ _).trans ?_
        exact ih' (ht.2 (spEqN_iff.1 he))
      · refine (bif_true (show (!spEqN (Tre.mk ul uk) (Tre.mk vl vk)) = true by simpa using he) _ _).trans ?_
        rw [if_neg (fun h => hne (fun e => he (spEqN_iff.2 e)) (spEqNs_iff.1 h))]
    · refine (bif_false (decide_eq_false (show ¬ (j : Int) < (l.length : Int) by omega)) _ _).trans ?_
      rw [List.take_of_length_le (by omega), List.take_of_length_le (by omega)] at h3
      rw [if_pos (spEqNs_iff.2 h3)]
noncomputable def bodytAlike (a0 : Nd) (a1 : Nd) : Option iotAlike.Res := bif a0.1.fst != a1.1.fst then some (Out.ret ((false, ()), ())) else bif a0.1.snd.fst != a1.1.snd.fst then some (Out.ret ((false, ()), ())) else bif !a0.1.snd.snd.fst == a1.1.snd.snd.fst then some (Out.ret ((false, ()), ())) else bif !decide (a0.1.snd.snd.snd.fst = a1.1.snd.snd.snd.fst) then some (Out.ret ((false, ()), ())) else bif (↑a0.2.length : Int) != (↑a1.2.length : Int) then some (Out.ret ((false, ()), ())) else (FtAlike_5 ((0, ()), ((a0.1.fst, (a0.1.snd.fst, (a0.1.snd.snd.fst, (a0.1.snd.snd.snd.fst, (a0.2, ()))))), ((a1.1.fst, (a1.1.snd.fst, (a1.1.snd.snd.fst, (a1.1.snd.snd.snd.fst, (a1.2, ()))))), ())))).run fun y => match y with | .ret ((), ((x25, ()), ())) => (some (Out.ret ((x25, ()), ()))) | .pan (.ret ((), ((), ()))) => (some (Out.ret ((true, ()), ())))
theorem runtAlike (a0 : Nd) (a1 : Nd) : Io.run tt hdtAlike dr lptAlike iotAlike Go.Proofs.Tryz.f49 ((a0, a1, ()), ()) = bodytAlike a0 a1 := by kernel_rfl
theorem oktAlikeS (rtAlike : HcOk prog 49 (ioHd iotAlike (FtAlikeN spFuel))) : HcOk prog 49 (ioHd iotAlike (FtAlikeN (spFuel + 1))) := by
  refine fn_sound (n := 400) hm (cs := cstAlike) (.cons okSame (.cons rtAlike .nil)) (lp := lptAlike) (fn := Go.Proofs.Tryz.f49) (by kernel_rfl) (by kernel_rfl) (by kernel_rfl) iotAlike (.step (h0 := loHd lotAlike_5 FtAlike_5) (by kernel_rfl) (loop_sound (n := 400) hm (cs := cstAlike) (.cons okSame (.cons rtAlike .nil)) (lp := lptAlike) (fn := Go.Proofs.Tryz.f49) (.done (by kernel_rfl)) lotAlike_5 FtAlike_5 ?_) (.done (by kernel_rfl))) (FtAlikeN (spFuel + 1)) ?_
  · rintro ⟨⟨(i : Int), ⟨⟩⟩, ⟨⟨(a : Int), (b : Int), (z : Bool), (x : List Int), (l : List Nd), ⟨⟩⟩, ⟨(c : Int), (d : Int), (z' : Bool), (y' : List Int), (m : List Nd), ⟨⟩⟩, ⟨⟩⟩⟩ y hw hy
    obtain ⟨hg, hy⟩ := Tr.guard hy
    simp only [Bool.and_eq_true, decide_eq_true_eq] at hg
    obtain ⟨h1, h2, h3⟩ := hg
    have h1 : i = 0 := h1
    have h2 : l.length = m.length := h2
    have h3 : spWts l < spFuel := h3
    subst h1
    refine ⟨l.length + 1, (looptAlike h2 (by have := hw.2.1.2.2.2.2.1.1; exact this) h3 a b c d z z' x y' (l.length + 1) 0 (by omega) (by omega) rfl).trans ?_⟩
    rw [← hy]
    by_cases h : spEqNs l m = true
    · rw [if_pos h]; exact (bif_true h _ _).symm
    · rw [if_neg h]; exact (bif_false (by simpa using h) _ _).symm
  · rintro ⟨⟨(a : Nd), (b : Nd), ⟨⟩⟩, ⟨⟩⟩ out hw ho
    obtain ⟨hg, ho⟩ := Tr.guard ho
    have hk : spWt a < spFuel + 1 := of_decide_eq_true hg
    clear hg
    cases ho
    refine (runtAlike a b).trans ?_
    unfold bodytAlike
    show _ = some (Out.ret ((spEqN a b, ()), ()))
    obtain ⟨⟨a1, a2, a3, a4, ⟨⟩⟩, a5⟩ := a
    obtain ⟨⟨b1, b2, b3, b4, ⟨⟩⟩, b5⟩ := b
    rw [spWt_eq] at hk
    have hk : 1 + a4.length + spWts a5 < spFuel + 1 := hk
    have key := spEqN_mk (a := a1) (b := b1) (c := a2) (d := b2) (z := a3) (z' := b3) (x := a4) (y := b4) (l := a5) (m := b5)
    have no : ¬ (a1 = b1 ∧ a2 = b2 ∧ a3 = b3 ∧ a4 = b4 ∧ a5 = b5) → spEqN (Tre.mk (a1, (a2, (a3, (a4, ())))) a5) (Tre.mk (b1, (b2, (b3, (b4, ())))) b5) = false := fun h => by
      rw [Bool.eq_false_iff]; exact fun e => h (key.1 e)
    by_cases h1 : a1 = b1
    · refine (bif_false (by simpa using h1) _ _).trans ?_
      by_cases h2 : a2 = b2
      · refine (bif_false (by simpa using h2) _ _).trans ?_
        by_cases h3 : a3 = b3
        · refine (bif_false (by simp [h3]) _ _).trans ?_
          by_cases h4 : a4 = b4
          · refine (bif_false (by simp [h4]) _ _).trans ?_
            by_cases h5 : a5.length = b5.length
            · refine (bif_false (by simp [h5]) _ _).trans ?_
              have c1 : (decide ((0 : Int) = 0) && (decide (a5.length = b5.length) && decide (spWts a5 < spFuel))) = true := by simp; omega
              have e1 : FtAlike_5 ((0, ()), ((a1, (a2, (a3, (a4, (a5, ()))))), ((b1, (b2, (b3, (b4, (b5, ()))))), ()))) = .ite true (.ite (spEqNs a5 b5) (.ret (.pan (.ret ((), ((), ()))))) (.ret (.ret ((), ((false, ()), ()))))) .no := congrArg (fun c => Tr.ite c _ _) c1
              rw [e1]
              by_cases h6 : a5 = b5
              · rw [spEqNs_iff.2 h6, key.2 ⟨h1, h2, h3, h4, h6⟩]; rfl
              · have : spEqNs a5 b5 = false := by rw [Bool.eq_false_iff]; exact fun e => h6 (spEqNs_iff.1 e)
                rw [this, no (fun h => h6 h.2.2.2.2)]; rfl
            · refine (bif_true (bne_iff_ne.2 (fun e => h5 (Int.ofNat.inj e))) _ _).trans ?_
              rw [no (fun h => h5 (by rw [h.2.2.2.2]))]
          · refine (bif_true (by simp [h4]) _ _).trans ?_
            rw [no (fun h => h4 h.2.2.2.1)]
        · refine (bif_true (by cases a3 <;> cases b3 <;> simp_all) _ _).trans ?_
          rw [no (fun h => h3 h.2.2.1)]
      · refine (bif_true (by simpa using h2) _ _).trans ?_
        rw [no (fun h => h2 h.2.1)]
    · refine (bif_true (by simpa using h1) _ _).trans ?_
      rw [no (fun h => h1 h.1)]
end
theorem oktAlikeN (n : Nat) : HcOk prog 49 (ioHd iotAlike (FtAlikeN n)) := by
  induction n with
  | zero => exact HcOk.none (fn := Go.Proofs.Tryz.f49) (by kernel_rfl) (by kernel_rfl) (by kernel_rfl) _ _ fun d out h => by cases h
  | succ n ih =>
    have := @oktAlikeS ⟨⟨n⟩⟩ (by rw [FuT.val]; exact ih)
    rw [FuT.val] at this
    exact this
theorem oktAlike : HcOk prog 49 (ioHd iotAlike FtAlike) := by
  refine HcOk.lim oktAlikeN fun d => ⟨spWt d.1.1 + 1, fun out h => ?_⟩
  exact (bif_true (decide_eq_true (Nat.lt_succ_self _)) _ _).trans h
/-! ### leat/leatref10.Twin -/
noncomputable abbrev iotTwin : Io := ⟨[dNode], [], [], [dNode], none⟩
noncomputable def FtTwinN (n : Nat) (d : iotTwin.In) : Tr iotTwin.Res := .ite (decide (spWt d.1.1 < n) && decide (spWt d.1.1 ≤ 4294967296)) (.ret (.ret ((d.1.1, ()), ()))) .no
noncomputable def FtTwin (d : iotTwin.In) : Tr iotTwin.Res := .ite (decide (spWt d.1.1 ≤ 4294967296)) (.ret (.ret ((d.1.1, ()), ()))) .no
section
variable [Inhabited FuT]
noncomputable abbrev cstTwin : List (Nat × Hc) := [(28, ioHd ioCopy FCopy), (33, ioHd iotTwin (FtTwinN spFuel))]
noncomputable def hdtTwin : Hd := hdT cstTwin
noncomputable abbrev lotTwin_4 : Lo := ⟨⟨[.any, .one (.ptr 1 0), .one (.ptr 2 0), .one (.onl 68 tNode 7), .one (.hol (.int IntKind.i64)), .any, .any, .any, .any, .any, .any, .any, .any, .any, .any, .any, .any, .any, .any, .any, .any, .any, .any, .any, .any, .any, .any, .any, .any, .any, .any, .any, .any], [none, some [.hol (.int IntKind.i64), .hol (.int IntKind.i64), .hol .bool, .hol (.sl 5 (Ty.int IntKind.u8)), .hol (.sl 68 tNode)], some [.hol (.int IntKind.i64), .hol (.int IntKind.i64), .hol .bool, .onl 5 (Ty.int IntKind.u8) 1032, .onl 68 tNode 1034]]⟩, [(.exit 0, ⟨[.any, .one (.ptr 1 0), .one (.ptr 2 0), .one (.onl 68 tNode 7), .any, .any, .any, .any, .any, .any, .any, .any, .any, .any, .any, .any, .any, .any, .any, .any, .any, .any, .any, .any, .any, .any, .any, .any, .any, .any, .any, .any, .any], [none, some [.hol (.int IntKind.i64), .hol (.int IntKind.i64), .hol .bool, .hol (.sl 5 (Ty.int IntKind.u8)), .hol (.sl 68 tNode)], some [.hol (.int IntKind.i64), .hol (.int IntKind.i64), .hol .bool, .onl 5 (Ty.int IntKind.u8) 1032, .onl 68 tNode 1034]]⟩)]⟩
-- FtTwin_4 : lotTwin_4.st.den → Tr (DenX lotTwin_4.xs) | ((h1, (h2, ())), ((h3, (h4, (h5, (h6, (h7, ()))))), ((h8, (h9, (h10, (h11, (h12, ()))))), ())))
noncomputable def FtTwin_4 (d : lotTwin_4.st.den) : Tr (DenX lotTwin_4.xs) :=
  .ite (decide (d.1.1.length = 0) && (decide (d.1.2.1 = 0) && (decide (spWts d.2.1.2.2.2.2.1 < spFuel) && decide (spWts d.2.1.2.2.2.2.1 ≤ 4294967296)))) (.ret (.ret ((), ((d.2.1.2.2.2.2.1, ()), d.2)))) .no
noncomputable def lptTwin : Lp := lpT [(4, loHd lotTwin_4 FtTwin_4)]
noncomputable def steptTwin_4 {R : Type} (h1 : List tNode.den) (h2 : Int) (h3 : Int) (h4 : Int) (h5 : Bool) (h6 : List Int) (h7 : List (Nd)) (h8 : Int) (h9 : Int) (h10 : Bool) (h11 : List Int) (h12 : List tNode.den) (next : List tNode.den → Int → Int → Int → Bool → List Int → List (Nd) → Int → Int → Bool → List Int → List tNode.den → Option R) (out : DenX lotTwin_4.xs → Option R) : Option R := bif decide (h2 < (↑h7.length : Int)) then bif decide (0 ≤ h2) && decide (h2 < (↑h7.length : Int)) then bif decide (spWt (Tre.mk (h7.getD h2.toNat (Tre.mk (0, 0, false, [], ()) [])).1 (h7.getD h2.toNat (Tre.mk (0, 0, false, [], ()) [])).2) < spFuel) && decide (spWt (Tre.mk (h7.getD h2.toNat (Tre.mk (0, 0, false, [], ()) [])).1 (h7.getD h2.toNat (Tre.mk (0, 0, false, [], ()) [])).2) ≤ 4294967296) then bif decide (h1.length + 1 ≤ 4294967296) then next (h1 ++ [Tre.mk (h7.getD h2.toNat (Tre.mk (0, 0, false, [], ()) [])).1 (h7.getD h2.toNat (Tre.mk (0, 0, false, [], ()) [])).2]) (IntKind.i64.wrap (h2 + 1)) (h3) (h4) (h5) (h6) (h7) (h8) (h9) (h10) (h11) (h12) else none else none else none else out (.ret ((), ((h1, ()), ((h3, (h4, (h5, (h6, (h7, ()))))), ((h8, (h9, (h10, (h11, (h12, ()))))), ())))))
noncomputable def ittTwin_4 (n : Nat) (h1 : List tNode.den) (h2 : Int) (h3 : Int) (h4 : Int) (h5 : Bool) (h6 : List Int) (h7 : List (Nd)) (h8 : Int) (h9 : Int) (h10 : Bool) (h11 : List Int) (h12 : List tNode.den) : Option (DenX lotTwin_4.xs) := lpN tt hdtTwin dr lptTwin 0 Go.Proofs.Tryz.f33 (topL Go.Proofs.Tryz.f33 0) n (lotTwin_4.st.mk' ((h1, (h2, ())), ((h3, (h4, (h5, (h6, (h7, ()))))), ((h8, (h9, (h10, (h11, (h12, ()))))), ())))) (decX lotTwin_4.xs)
theorem sltTwin_4 (n : Nat) (h1 : List tNode.den) (h2 : Int) (h3 : Int) (h4 : Int) (h5 : Bool) (h6 : List Int) (h7 : List (Nd)) (h8 : Int) (h9 : Int) (h10 : Bool) (h11 : List Int) (h12 : List tNode.den) : ittTwin_4 (n + 1) h1 h2 h3 h4 h5 h6 h7 h8 h9 h10 h11 h12 = steptTwin_4 h1 h2 h3 h4 h5 h6 h7 h8 h9 h10 h11 h12 (ittTwin_4 n) some := by kernel_rfl
theorem looptTwin {l : List Nd} (hw : spWts l < spFuel) (hb : spWts l ≤ 4294967296) (a b : Int) (z : Bool) (x : List Int) (c d : Int) (z' : Bool) (y : List Int) (m : List Nd) : ∀ (k j : Nat), l.length < j + k → j ≤ l.length →
    ittTwin_4 k (l.take j) j a b z x l c d z' y m = some (.ret ((), ((l, ()), ((a, (b, (z, (x, (l, ()))))), ((c, (d, (z', (y, (m, ()))))), ()))))) := by
  intro k
  induction k with
  | zero => intro j h1 h2; omega
  | succ k ih =>
    intro j h1 h2
    rw [sltTwin_4]
    unfold steptTwin_4
    by_cases hj : j < l.length
    · refine (bif_true (decide_eq_true (show (j : Int) < (l.length : Int) by omega)) _ _).trans ?_
      refine (bif_true (by simp; omega) _ _).trans ?_
      have hlen := spWts_len l
      rw [wrap_i64 (n := (j : Int) + 1) (by omega) (by omega)]
      have hmem := spWt_mem (List.getElem_mem hj)
      have ht : l.take (j + 1) = l.take j ++ [l[j]] := List.take_succ_eq_append_getElem hj
      have ih' := ih (j + 1) (by omega) (by omega)
      rw [ht] at ih'
      simp only [Int.toNat_natCast, getD_lt hj]
      generalize l[j] = u at hmem ht ih' ⊢
      obtain ⟨ul, uk⟩ := u
      refine (bif_true (show (decide (spWt (Tre.mk ul uk) < spFuel) && decide (spWt (Tre.mk ul uk) ≤ 4294967296)) = true by simp; omega) _ _).trans ?_
      refine (bif_true (decide_eq_true (show (l.take j).length + 1 ≤ 4294967296 by simp; omega)) _ _).trans ?_
      exact ih'
    · refine (bif_false (decide_eq_false (show ¬ (j : Int) < (l.length : Int) by omega)) _ _).trans ?_
      rw [List.take_of_length_le (by omega)]
noncomputable def bodytTwin (a0 : Nd) : Option iotTwin.Res := (FtTwin_4 (([], (0, ())), ((a0.1.fst, (a0.1.snd.fst, (a0.1.snd.snd.fst, (a0.1.snd.snd.snd.fst, (a0.2, ()))))), ((0, (0, (false, ([], ([], ()))))), ())))).run fun y => match y with | .ret ((), ((x36, ()), (x37, x38, x39, x40, x41, ()), (x42, x43, x44, x45, x46, ()), ())) => (bif decide (x40.length ≤ 4294967296) then some (Out.ret ((Tre.mk (x37, x38, x39, x40, ()) x36, ()), ())) else none)
theorem runtTwin (a0 : Nd) : Io.run tt hdtTwin dr lptTwin iotTwin Go.Proofs.Tryz.f33 ((a0, ()), ()) = bodytTwin a0 := by kernel_rfl
theorem oktTwinS (rtTwin : HcOk prog 33 (ioHd iotTwin (FtTwinN spFuel))) : HcOk prog 33 (ioHd iotTwin (FtTwinN (spFuel + 1))) := by
  refine fn_sound (n := 400) hm (cs := cstTwin) (.cons okCopy (.cons rtTwin .nil)) (lp := lptTwin) (fn := Go.Proofs.Tryz.f33) (by kernel_rfl) (by kernel_rfl) (by kernel_rfl) iotTwin (.step (h0 := loHd lotTwin_4 FtTwin_4) (by kernel_rfl) (loop_sound (n := 400) hm (cs := cstTwin) (.cons okCopy (.cons rtTwin .nil)) (lp := lptTwin) (fn := Go.Proofs.Tryz.f33) (.done (by kernel_rfl)) lotTwin_4 FtTwin_4 ?_) (.done (by kernel_rfl))) (FtTwinN (spFuel + 1)) ?_
  · rintro ⟨⟨(o : List Nd), (i : Int), ⟨⟩⟩, ⟨⟨(a : Int), (b : Int), (z : Bool), (x : List Int), (l : List Nd), ⟨⟩⟩, ⟨(c : Int), (d : Int), (z' : Bool), (y' : List Int), (m : List Nd), ⟨⟩⟩, ⟨⟩⟩⟩ y hw hy
    obtain ⟨hg, hy⟩ := Tr.guard hy
    simp only [Bool.and_eq_true, decide_eq_true_eq] at hg
    obtain ⟨h1, h2, h3, h4⟩ := hg
    have h1 : o = [] := List.eq_nil_of_length_eq_zero h1
    have h2 : i = 0 := h2
    have h3 : spWts l < spFuel := h3
    have h4 : spWts l ≤ 4294967296 := h4
    subst h1
    subst h2
    refine ⟨l.length + 1, (looptTwin h3 h4 a b z x c d z' y' m (l.length + 1) 0 (by omega) (by omega)).trans ?_⟩
    rw [← hy]
    rfl
  · rintro ⟨⟨(a : Nd), ⟨⟩⟩, ⟨⟩⟩ out hw ho
    obtain ⟨hg, ho⟩ := Tr.guard ho
    simp only [Bool.and_eq_true, decide_eq_true_eq] at hg
    obtain ⟨hk, hb⟩ := hg
    have hk : spWt a < spFuel + 1 := hk
    have hb : spWt a ≤ 4294967296 := hb
    cases ho
    refine (runtTwin a).trans ?_
    unfold bodytTwin
    show _ = some (Out.ret ((a, ()), ()))
    obtain ⟨⟨a1, a2, a3, a4, ⟨⟩⟩, a5⟩ := a
    rw [spWt_eq] at hk hb
    have hk : 1 + a4.length + spWts a5 < spFuel + 1 := hk
    have hb : 1 + a4.length + spWts a5 ≤ 4294967296 := hb
    have c1 : (decide (([] : List Nd).length = 0) && (decide ((0 : Int) = 0) && (decide (spWts a5 < spFuel) && decide (spWts a5 ≤ 4294967296)))) = true := by simp; omega
    have e1 : FtTwin_4 ((([] : List Nd), (0, ())), ((a1, (a2, (a3, (a4, (a5, ()))))), ((0, (0, (false, (([] : List Int), (([] : List Nd), ()))))), ()))) = .ite true (.ret (.ret ((), ((a5, ()), ((a1, (a2, (a3, (a4, (a5, ()))))), ((0, (0, (false, (([] : List Int), (([] : List Nd), ()))))), ())))))) .no := congrArg (fun c => Tr.ite c _ _) c1
    rw [e1]
    exact bif_true (decide_eq_true (show a4.length ≤ 4294967296 by omega)) _ _
end
theorem oktTwinN (n : Nat) : HcOk prog 33 (ioHd iotTwin (FtTwinN n)) := by
  induction n with
  | zero => exact HcOk.none (fn := Go.Proofs.Tryz.f33) (by kernel_rfl) (by kernel_rfl) (by kernel_rfl) _ _ fun d out h => by cases h
  | succ n ih =>
    have := @oktTwinS ⟨⟨n⟩⟩ (by rw [FuT.val]; exact ih)
    rw [FuT.val] at this
    exact this
theorem oktTwin : HcOk prog 33 (ioHd iotTwin FtTwin) := by
  refine HcOk.lim oktTwinN fun d => ⟨spWt d.1.1 + 1, fun out h => ?_⟩
  obtain ⟨hg, h⟩ := Tr.guard h
  refine (bif_true ?_ _ _).trans h
  simp only [Bool.and_eq_true, decide_eq_true_eq]
  exact ⟨Nat.lt_succ_self _, of_decide_eq_true hg⟩
end
end Go.Proofs.YtmlgepgcofmpeaaGreat.Sym

/- leatref10.value, parts. -/
namespace Go.Proofs.YtmlgepgcofmpeaaGreat.Sym
open Go
set_option linter.unusedSimpArgs false
set_option linter.unusedVariables false
noncomputable section

mutual
/-- A node written for a field. -/
noncomputable def spVal (f : Fd) (v : Int) : Nd → List Int × Int
  | .mk a ks =>
    if spShN f.lab.2.1 (.mk a ks) = false then ([], 101)
    else if f.lab.2.1 ≤ 4 then (if spFits a.2.1 (spWid f.lab.2.1) = true then (spBE a.2.1 (spWid f.lab.2.1).toNat, 0) else ([], 102))
    else if f.lab.2.1 = 9 then (if 16 < ks.length then ([], 9) else if (spVItems (f.kids.headD f) v ks).2 ≠ 0 then ([], (spVItems (f.kids.headD f) v ks).2) else (spBE ks.length 4 ++ (spVItems (f.kids.headD f) v ks).1, 0))
    else if f.lab.2.1 = 10 then spVParts f.kids v (.mk a ks)
    else if a.2.2.1 = true then (if a.2.2.2.1.length = 0 then (spBE (-1) (spWid f.lab.2.1).toNat, 0) else ([], 70))
    else if f.lab.2.1 ≤ 6 ∧ (spUtf a.2.2.2.1).2 = false then ([], 6)
    else if f.lab.2.1 ≤ 6 ∧ 255 < a.2.2.2.1.length then ([], 4)
    else (spBE a.2.2.2.1.length (spWid f.lab.2.1).toNat ++ a.2.2.2.1, 0)
termination_by n => (SizeOf.sizeOf n, 1)
/-- A struct's parts written. -/
noncomputable def spVParts (fs : List Fd) (v : Int) : Nd → List Int × Int
  | .mk a ks => if ks.length ≠ (spHere fs v).length then ([], 101) else spVZip v (spHere fs v) ks
termination_by n => (SizeOf.sizeOf n, 0)
noncomputable def spVItems (f : Fd) (v : Int) : List Nd → List Int × Int
  | [] => ([], 0)
  | k :: ks => if (spVal f v k).2 ≠ 0 then ([], (spVal f v k).2) else if (spVItems f v ks).2 ≠ 0 then ([], (spVItems f v ks).2) else ((spVal f v k).1 ++ (spVItems f v ks).1, 0)
termination_by l => (SizeOf.sizeOf l, 0)
noncomputable def spVZip (v : Int) : List Fd → List Nd → List Int × Int
  | f :: fs, k :: ks => if (spVal f v k).2 ≠ 0 then ([], (spVal f v k).2) else if (spVZip v fs ks).2 ≠ 0 then ([], (spVZip v fs ks).2) else ((spVal f v k).1 ++ (spVZip v fs ks).1, 0)
  | _, _ => ([], 0)
termination_by fs l => (SizeOf.sizeOf l, 0)
end
mutual
/-- Every array's field has an element. -/
def Tre.arr : Fd → Bool
  | .mk a ks => ((decide (a.2.1 ≠ 9) || decide (ks.length ≠ 0)) && decide (ks.length ≤ 16)) && Tre.arrs ks
def Tre.arrs : List Fd → Bool
  | [] => true
  | k :: ks => k.arr && Tre.arrs ks
end
@[irreducible] noncomputable def spArr (f : Fd) : Bool := f.arr
@[irreducible] noncomputable def spArrs (f : List Fd) : Bool := Tre.arrs f
theorem spArr_eq (f : Fd) : spArr f = (((decide (f.lab.2.1 ≠ 9) || decide (f.kids.length ≠ 0)) && decide (f.kids.length ≤ 16)) && spArrs f.kids) := by
  cases f; unfold spArr spArrs; rfl
theorem spArrs_mem {k : Fd} : ∀ {l : List Fd}, spArrs l = true → k ∈ l → spArr k = true
  | [], _, h => by cases h
  | x :: l, h, hk => by
    unfold spArrs at h
    simp only [Tre.arrs, Bool.and_eq_true] at h
    rcases List.mem_cons.1 hk with rfl | hk
    · unfold spArr; exact h.1
    · exact spArrs_mem (l := l) (by unfold spArrs; exact h.2) hk
theorem spArrs_here {l : List Fd} {v : Int} (h : spArrs l = true) : spArrs (spHere l v) = true := by
  have key : ∀ l : List Fd, (∀ k ∈ l, spArr k = true) → spArrs l = true := by
    intro l
    induction l with
    | nil => intro _; unfold spArrs; rfl
    | cons x l ih =>
      intro h
      have h1 := ih fun k hk => h k (List.mem_cons_of_mem _ hk)
      have h2 := h x (by simp)
      unfold spArrs spArr at *
      simp only [Tre.arrs, h1, h2, Bool.and_self]
  refine key _ fun k hk => spArrs_mem h (List.mem_filter.1 hk).1
theorem spWts_cons (k : Nd) (ks : List Nd) : spWts (k :: ks) = spWt k + spWts ks := by unfold spWts spWt; rfl
theorem spWid_le (k : Int) : 1 ≤ spWid k ∧ spWid k ≤ 8 := by unfold spWid; split; omega; split; omega; split <;> omega
theorem spVItems_len {f : Fd} {v : Int} : ∀ {ks : List Nd}, (∀ k ∈ ks, (spVal f v k).1.length ≤ 8 * spWt k) → (spVItems f v ks).1.length ≤ 8 * spWts ks
  | [], _ => by rw [spVItems]; simp
  | k :: ks, h => by
    have h1 := h k (by simp)
    have h2 := spVItems_len (f := f) (v := v) (ks := ks) fun k hk => h k (List.mem_cons_of_mem _ hk)
    rw [spVItems, spWts_cons]
    split
    · simp
    · split
      · simp
      · rw [List.length_append]; omega
theorem spVZip_len {v : Int} : ∀ {fs : List Fd} {ks : List Nd}, (∀ f, ∀ k ∈ ks, (spVal f v k).1.length ≤ 8 * spWt k) → (spVZip v fs ks).1.length ≤ 8 * spWts ks
  | f :: fs, k :: ks, h => by
    have h1 := h f k (by simp)
    have h2 := spVZip_len (v := v) (fs := fs) (ks := ks) fun f k hk => h f k (List.mem_cons_of_mem _ hk)
    rw [spVZip, spWts_cons]
    split
    · simp
    · split
      · simp
      · rw [List.length_append]; omega
  | [], ks, h => by rw [spVZip]; simp; simp
  | _ :: _, [], h => by rw [spVZip]; simp; simp
theorem spVItems_nil {f : Fd} {v : Int} : ∀ {ks : List Nd}, (spVItems f v ks).2 ≠ 0 → (spVItems f v ks).1 = []
  | [], h => by rw [spVItems]
  | k :: ks, h => by
    rw [spVItems] at h ⊢
    split
    · rfl
    · rename_i h1
      rw [if_neg h1] at h
      split
      · rfl
      · rename_i h2
        rw [if_neg h2] at h
        exact absurd rfl h
theorem spVZip_nil {v : Int} : ∀ {fs : List Fd} {ks : List Nd}, (spVZip v fs ks).2 ≠ 0 → (spVZip v fs ks).1 = []
  | [], ks, h => by rw [spVZip]; simp
  | _ :: _, [], h => by rw [spVZip]; simp
  | f :: fs, k :: ks, h => by
    rw [spVZip] at h ⊢
    split
    · rfl
    · rename_i h1
      rw [if_neg h1] at h
      split
      · rfl
      · rename_i h2
        rw [if_neg h2] at h
        exact absurd rfl h
theorem spVal_lenN (v : Int) : ∀ (N : Nat), (∀ f n, spWt n ≤ N → (spVal f v n).1.length ≤ 8 * spWt n) ∧ (∀ fs n, spWt n ≤ N → (spVParts fs v n).1.length + 8 ≤ 8 * spWt n) := by
  intro N
  induction N with
  | zero => exact ⟨fun f n h => by have := spWt_pos n; omega, fun f n h => by have := spWt_pos n; omega⟩
  | succ N ih =>
    have hp : ∀ fs n, spWt n ≤ N + 1 → (spVParts fs v n).1.length + 8 ≤ 8 * spWt n := by
      rintro fs ⟨a, ks⟩ h
      rw [spWt_eq] at h ⊢
      rw [spVParts]
      simp only at h ⊢
      split
      · simp; omega
      · have := spVZip_len (v := v) (fs := spHere fs v) (ks := ks) fun f k hk => ih.1 f k (by have := spWt_mem hk; omega)
        omega
    refine ⟨?_, hp⟩
    rintro f ⟨a, ks⟩ h
    have hpp := hp f.kids (.mk a ks) h
    have hw := spWid_le f.lab.2.1
    rw [spWt_eq] at h hpp ⊢
    rw [spVal]
    simp only at h hpp ⊢
    have hi := spVItems_len (f := f.kids.headD f) (v := v) (ks := ks) fun k hk => ih.1 _ k (by have := spWt_mem hk; omega)
    split
    · simp
    split
    · split
      · simp [spBE_len]; omega
      · simp
    split
    · split
      · simp
      · split
        · simp
        · rw [List.length_append, spBE_len]; omega
    split
    · omega
    split
    · split
      · simp [spBE_len]; omega
      · simp
    split
    · simp
    split
    · simp
    · rw [List.length_append, spBE_len]; omega
theorem spVal_len (f : Fd) (v : Int) (n : Nd) : (spVal f v n).1.length ≤ 8 * spWt n := (spVal_lenN v _).1 f n (Nat.le_refl _)
/-! ### leat/leatref10.value -/
noncomputable abbrev iovValue : Io := ⟨[dFld, dI, dNode], [], [], [dL, dI], none⟩
noncomputable def FvValueN (n : Nat) (d : iovValue.In) : Tr iovValue.Res := .ite (decide (2 * spWt d.1.2.2.1 + 1 ≤ n) && (spArr d.1.1 && decide (8 * spWt d.1.2.2.1 ≤ 4294967296))) (.ret (.ret (((spVal d.1.1 d.1.2.1 d.1.2.2.1).1, ((spVal d.1.1 d.1.2.1 d.1.2.2.1).2, ())), ()))) .no
noncomputable def FvValue (d : iovValue.In) : Tr iovValue.Res := .ite (spArr d.1.1 && decide (8 * spWt d.1.2.2.1 ≤ 4294967296)) (.ret (.ret (((spVal d.1.1 d.1.2.1 d.1.2.2.1).1, ((spVal d.1.1 d.1.2.1 d.1.2.2.1).2, ())), ()))) .no
noncomputable abbrev iovParts : Io := ⟨[dFlds, dI, dNode], [], [], [dL, dI], none⟩
noncomputable def FvPartsN (n : Nat) (d : iovParts.In) : Tr iovParts.Res := .ite (decide (2 * spWt d.1.2.2.1 ≤ n) && (spArrs d.1.1 && (decide (8 * spWt d.1.2.2.1 ≤ 4294967296) && decide (d.1.1.length ≤ 4294967296)))) (.ret (.ret (((spVParts d.1.1 d.1.2.1 d.1.2.2.1).1, ((spVParts d.1.1 d.1.2.1 d.1.2.2.1).2, ())), ()))) .no
noncomputable def FvParts (d : iovParts.In) : Tr iovParts.Res := .ite (spArrs d.1.1 && (decide (8 * spWt d.1.2.2.1 ≤ 4294967296) && decide (d.1.1.length ≤ 4294967296))) (.ret (.ret (((spVParts d.1.1 d.1.2.1 d.1.2.2.1).1, ((spVParts d.1.1 d.1.2.1 d.1.2.2.1).2, ())), ()))) .no
section
variable [Inhabited FuT]
noncomputable abbrev csvValue : List (Nat × Hc) := [(130, ioHd iotShape FtShape), (154, ioHd iotWidth FtWidth), (155, ioHd ionFits FnFits), (156, ioHd ionDigits FnDigits), (145, ioHd iovValue (FvValueN spFuel)), (131, ioHd iovParts (FvPartsN spFuel)), (157, ioHd iorUtf FrUtf), (146, ioHd ioCat FCat)]
noncomputable def hdvValue : Hd := hdT csvValue
noncomputable abbrev lovValue_14 : Lo := ⟨⟨[.any, .one (.hol (.int IntKind.i64)), .any, .one (.ptr 3 0), .any, .one (.ptr 5 0), .any, .any, .any, .one (.onl 5 (Ty.int IntKind.u8) 19), .one (.hol (.int IntKind.i64)), .any, .any, .any, .any, .any, .any, .any, .any, .any, .any, .any, .any, .any, .any, .any, .any, .any, .any, .any, .any, .any, .any, .any, .any, .any, .any, .any, .any, .any, .any, .any, .any, .any, .any, .any, .any, .any, .any, .any, .any, .any, .any, .any, .any, .any, .any, .any, .any, .any, .any, .any, .any, .any, .any, .any, .any, .any, .any, .any, .any, .any, .any, .any, .any, .any, .any, .any, .any, .any, .any, .any, .any, .any, .any, .any, .any, .any, .any, .any, .any, .any, .any, .any, .any, .any, .any, .any, .any, .any, .any, .any, .any, .any, .any, .any, .any, .any, .any, .any, .any, .any, .any, .any, .any, .any, .any, .any], [none, none, none, some [.hol .str, .hol (.int IntKind.i64), .hol (.int IntKind.i64), .hol (.int IntKind.i64), .hol (.sl 159 tFld)], none, some [.hol (.int IntKind.i64), .hol (.int IntKind.i64), .hol .bool, .hol (.sl 5 (Ty.int IntKind.u8)), .hol (.sl 68 (((Ty.int IntKind.i64).prod ((Ty.int IntKind.i64).prod (Ty.bool.prod ((Ty.sl 5 (Ty.int IntKind.u8)).prod Ty.unit)))).tree 68))]]⟩, [(.ret, ⟨[.any, .any, .any, .any, .any, .any, .one (.onl 5 (Ty.int IntKind.u8) 13), .one (.hol (.int IntKind.i64)), .any, .any, .any, .any, .any, .any, .any, .any, .any, .any, .any, .any, .any, .any, .any, .any, .any, .any, .any, .any, .any, .any, .any, .any, .any, .any, .any, .any, .any, .any, .any, .any, .any, .any, .any, .any, .any, .any, .any, .any, .any, .any, .any, .any, .any, .any, .any, .any, .any, .any, .any, .any, .any, .any, .any, .any, .any, .any, .any, .any, .any, .any, .any, .any, .any, .any, .any, .any, .any, .any, .any, .any, .any, .any, .any, .any, .any, .any, .any, .any, .any, .any, .any, .any, .any, .any, .any, .any, .any, .any, .any, .any, .any, .any, .any, .any, .any, .any, .any, .any, .any, .any, .any, .any, .any, .any, .any, .any, .any, .any], []⟩), (.exit 0, ⟨[.any, .any, .any, .any, .any, .any, .any, .any, .any, .one (.onl 5 (Ty.int IntKind.u8) 19), .any, .any, .any, .any, .any, .any, .any, .any, .any, .any, .any, .any, .any, .any, .any, .any, .any, .any, .any, .any, .any, .any, .any, .any, .any, .any, .any, .any, .any, .any, .any, .any, .any, .any, .any, .any, .any, .any, .any, .any, .any, .any, .any, .any, .any, .any, .any, .any, .any, .any, .any, .any, .any, .any, .any, .any, .any, .any, .any, .any, .any, .any, .any, .any, .any, .any, .any, .any, .any, .any, .any, .any, .any, .any, .any, .any, .any, .any, .any, .any, .any, .any, .any, .any, .any, .any, .any, .any, .any, .any, .any, .any, .any, .any, .any, .any, .any, .any, .any, .any, .any, .any, .any, .any, .any, .any, .any, .any], []⟩)]⟩
-- FvValue_14 : lovValue_14.st.den → Tr (DenX lovValue_14.xs) | ((h3, (h4, (h5, ()))), ((h6, (h7, (h8, (h9, (h10, ()))))), ((h11, (h12, (h13, (h14, (h15, ()))))), ())))
noncomputable def FvValue_14 (d : lovValue_14.st.den) : Tr (DenX lovValue_14.xs) :=
  .ite (decide (d.1.2.2.1 = 0) && (decide (d.1.2.1.length = 4) && ((decide (d.2.1.2.2.2.2.1.length ≠ 0) && spArrs d.2.1.2.2.2.2.1) && (decide (2 * spWts d.2.2.1.2.2.2.2.1 + 1 ≤ spFuel) && decide (8 + 8 * spWts d.2.2.1.2.2.2.2.1 ≤ 4294967296)))))
    (.ite (decide ((spVItems (d.2.1.2.2.2.2.1.headD (.mk ([], (0, (0, (0, ())))) [])) d.1.1 d.2.2.1.2.2.2.2.1).2 = 0))
      (.ret (.pan (.ret ((), ((d.1.2.1 ++ (spVItems (d.2.1.2.2.2.2.1.headD (.mk ([], (0, (0, (0, ())))) [])) d.1.1 d.2.2.1.2.2.2.2.1).1, ()), ())))))
      (.ret (.ret ((), (([], ((spVItems (d.2.1.2.2.2.2.1.headD (.mk ([], (0, (0, (0, ())))) [])) d.1.1 d.2.2.1.2.2.2.2.1).2, ())), ()))))) .no
noncomputable def lpvValue : Lp := lpT [(14, loHd lovValue_14 FvValue_14)]
noncomputable def stepvValue_14 {R : Type} (h3 : Int) (h4 : List Int) (h5 : Int) (h6 : List Int) (h7 : Int) (h8 : Int) (h9 : Int) (h10 : List (Fd)) (h11 : Int) (h12 : Int) (h13 : Bool) (h14 : List Int) (h15 : List (Nd)) (next : Int → List Int → Int → List Int → Int → Int → Int → List (Fd) → Int → Int → Bool → List Int → List (Nd) → Option R) (out : DenX lovValue_14.xs → Option R) : Option R := bif decide (h5 < (↑h15.length : Int)) then bif decide (0 ≤ 0) && decide (0 < (↑h10.length : Int)) then bif decide (0 ≤ h5) && decide (h5 < (↑h15.length : Int)) then bif decide (2 * spWt (Tre.mk (h15.getD h5.toNat (Tre.mk (0, 0, false, [], ()) [])).1 (h15.getD h5.toNat (Tre.mk (0, 0, false, [], ()) [])).2) + 1 ≤ spFuel) && (spArr (Tre.mk (h10.getD (Int.toNat 0) (Tre.mk ([], 0, 0, 0, ()) [])).1 (h10.getD (Int.toNat 0) (Tre.mk ([], 0, 0, 0, ()) [])).2) && decide (8 * spWt (Tre.mk (h15.getD h5.toNat (Tre.mk (0, 0, false, [], ()) [])).1 (h15.getD h5.toNat (Tre.mk (0, 0, false, [], ()) [])).2) ≤ 4294967296)) then bif (spVal (Tre.mk (h10.getD (Int.toNat 0) (Tre.mk ([], 0, 0, 0, ()) [])).1 (h10.getD (Int.toNat 0) (Tre.mk ([], 0, 0, 0, ()) [])).2) h3 (Tre.mk (h15.getD h5.toNat (Tre.mk (0, 0, false, [], ()) [])).1 (h15.getD h5.toNat (Tre.mk (0, 0, false, [], ()) [])).2)).snd != 0 then out (.ret ((), (([], ((spVal (Tre.mk (h10.getD (Int.toNat 0) (Tre.mk ([], 0, 0, 0, ()) [])).1 (h10.getD (Int.toNat 0) (Tre.mk ([], 0, 0, 0, ()) [])).2) h3 (Tre.mk (h15.getD h5.toNat (Tre.mk (0, 0, false, [], ()) [])).1 (h15.getD h5.toNat (Tre.mk (0, 0, false, [], ()) [])).2)).snd, ())), ()))) else bif decide (h4.length + (spVal (Tre.mk (h10.getD (Int.toNat 0) (Tre.mk ([], 0, 0, 0, ()) [])).1 (h10.getD (Int.toNat 0) (Tre.mk ([], 0, 0, 0, ()) [])).2) h3 (Tre.mk (h15.getD h5.toNat (Tre.mk (0, 0, false, [], ()) [])).1 (h15.getD h5.toNat (Tre.mk (0, 0, false, [], ()) [])).2)).fst.length ≤ 4294967296) then next (h3) (h4 ++ (spVal (Tre.mk (h10.getD (Int.toNat 0) (Tre.mk ([], 0, 0, 0, ()) [])).1 (h10.getD (Int.toNat 0) (Tre.mk ([], 0, 0, 0, ()) [])).2) h3 (Tre.mk (h15.getD h5.toNat (Tre.mk (0, 0, false, [], ()) [])).1 (h15.getD h5.toNat (Tre.mk (0, 0, false, [], ()) [])).2)).fst) (IntKind.i64.wrap (h5 + 1)) (h6) (h7) (h8) (h9) (h10) (h11) (h12) (h13) (h14) (h15) else none else none else none else none else out (.pan (.ret ((), ((h4, ()), ()))))
noncomputable def itvValue_14 (n : Nat) (h3 : Int) (h4 : List Int) (h5 : Int) (h6 : List Int) (h7 : Int) (h8 : Int) (h9 : Int) (h10 : List (Fd)) (h11 : Int) (h12 : Int) (h13 : Bool) (h14 : List Int) (h15 : List (Nd)) : Option (DenX lovValue_14.xs) := lpN tt hdvValue dr lpvValue 0 Go.Proofs.Tryz.f145 (topL Go.Proofs.Tryz.f145 0) n (lovValue_14.st.mk' ((h3, (h4, (h5, ()))), ((h6, (h7, (h8, (h9, (h10, ()))))), ((h11, (h12, (h13, (h14, (h15, ()))))), ())))) (decX lovValue_14.xs)
theorem slvValue_14 (n : Nat) (h3 : Int) (h4 : List Int) (h5 : Int) (h6 : List Int) (h7 : Int) (h8 : Int) (h9 : Int) (h10 : List (Fd)) (h11 : Int) (h12 : Int) (h13 : Bool) (h14 : List Int) (h15 : List (Nd)) : itvValue_14 (n + 1) h3 h4 h5 h6 h7 h8 h9 h10 h11 h12 h13 h14 h15 = stepvValue_14 h3 h4 h5 h6 h7 h8 h9 h10 h11 h12 h13 h14 h15 (itvValue_14 n) some := by kernel_rfl
theorem loopvValue {f0 : Fd} {fs : List Fd} {ks : List Nd} {v : Int} (hl : ks.length ≤ maxLen) (ha : spArr f0 = true) (hf : 2 * spWts ks + 1 ≤ spFuel) (hb : 8 * spWts ks ≤ 4294967296) (nm : List Int) (k' lo hi a b : Int) (z : Bool) (x : List Int) : ∀ (k j : Nat) (o : List Int), ks.length < j + k → j ≤ ks.length → o.length + 8 * spWts (ks.drop j) ≤ 4294967296 →
    itvValue_14 k v o j nm k' lo hi (f0 :: fs) a b z x ks = if (spVItems f0 v (ks.drop j)).2 = 0 then some (.pan (.ret ((), ((o ++ (spVItems f0 v (ks.drop j)).1, ()), ())))) else some (.ret ((), (([], ((spVItems f0 v (ks.drop j)).2, ())), ()))) := by
  intro k
  induction k with
  | zero => intro j o h1 h2; omega
  | succ k ih =>
    intro j o h1 h2 h3
    rw [slvValue_14]
    unfold stepvValue_14
    by_cases hj : j < ks.length
    · refine (bif_true (decide_eq_true (show (j : Int) < (ks.length : Int) by omega)) _ _).trans ?_
      refine (bif_true (by simp) _ _).trans ?_
      refine (bif_true (by simp; omega) _ _).trans ?_
      have hmem := spWt_mem (List.getElem_mem hj)
      have hd : ks.drop j = ks[j] :: ks.drop (j + 1) := List.drop_eq_getElem_cons hj
      have hvl := spVal_len f0 v ks[j]
      have ih' := ih (j + 1) (o ++ (spVal f0 v ks[j]).1) (by omega) (by omega)
      rw [hd, spWts_cons] at h3
      rw [hd, spVItems]
      rw [wrap_succ hj hl]
      simp only [Int.toNat_natCast, getD_lt hj]
      generalize ks[j] = u at hmem hvl ih' h3 ⊢
      obtain ⟨ul, uk⟩ := u
      obtain ⟨fl, fk⟩ := f0
      refine (bif_true (show (decide (2 * spWt (Tre.mk ul uk) + 1 ≤ spFuel) && (spArr (Tre.mk fl fk) && decide (8 * spWt (Tre.mk ul uk) ≤ 4294967296))) = true by rw [ha]; simp; omega) _ _).trans ?_
      by_cases he : (spVal (Tre.mk fl fk) v (Tre.mk ul uk)).2 = 0
      · refine (bif_false (show ((spVal (Tre.mk fl fk) v (Tre.mk ul uk)).2 != 0) = false by rw [he]; rfl) _ _).trans ?_
        refine (bif_true (decide_eq_true (show o.length + (spVal (Tre.mk fl fk) v (Tre.mk ul uk)).1.length ≤ 4294967296 by omega)) _ _).trans ?_
        refine (ih' (by rw [List.length_append]; omega)).trans ?_
        by_cases h2 : (spVItems (Tre.mk fl fk) v (ks.drop (j + 1))).2 = 0
        · simp [he, h2]
        · simp [he, h2]
      · refine (bif_true (show ((spVal (Tre.mk fl fk) v (Tre.mk ul uk)).2 != 0) = true by simpa using he) _ _).trans ?_
        simp [he]
    · refine (bif_false (decide_eq_false (show ¬ (j : Int) < (ks.length : Int) by omega)) _ _).trans ?_
      rw [List.drop_of_length_le (by omega), spVItems, if_pos rfl, List.append_nil]
noncomputable def bodyvValue (a0 : Fd) (a1 : Int) (a2 : Nd) : Option iovValue.Res := bif !spShN a0.1.snd.fst (Tre.mk a2.1 a2.2) then some (Out.ret (([], 101, ()), ())) else bif decide (a0.1.snd.fst ≤ 4) then bif decide (1 ≤ spWid a0.1.snd.fst) then bif !spFits a2.1.snd.fst (spWid a0.1.snd.fst) then some (Out.ret (([], 102, ()), ())) else bif decide (0 ≤ spWid a0.1.snd.fst) && decide (spWid a0.1.snd.fst ≤ 8) then some (Out.ret ((spBE a2.1.snd.fst (spWid a0.1.snd.fst).toNat, 0, ()), ())) else none else none else bif a0.1.snd.fst == 9 then bif decide (16 < (↑a2.2.length : Int)) then some (Out.ret (([], 9, ()), ())) else (FvValue_14 ((a1, (spBE (↑a2.2.length : Int) (Int.toNat 4), (0, ()))), ((a0.1.fst, (a0.1.snd.fst, (a0.1.snd.snd.fst, (a0.1.snd.snd.snd.fst, (a0.2, ()))))), ((a2.1.fst, (a2.1.snd.fst, (a2.1.snd.snd.fst, (a2.1.snd.snd.snd.fst, (a2.2, ()))))), ())))).run fun y => match y with | .ret ((), ((x32, x33, ()), ())) => (some (Out.ret ((x32, x33, ()), ()))) | .pan (.ret ((), ((x34, ()), ()))) => (some (Out.ret ((x34, 0, ()), ()))) else bif a0.1.snd.fst == 10 then bif decide (2 * spWt (Tre.mk a2.1 a2.2) ≤ spFuel) && (spArrs a0.2 && (decide (8 * spWt (Tre.mk a2.1 a2.2) ≤ 4294967296) && decide (a0.2.length ≤ 4294967296))) then some (Out.ret (((spVParts a0.2 a1 (Tre.mk a2.1 a2.2)).fst, (spVParts a0.2 a1 (Tre.mk a2.1 a2.2)).snd, ()), ())) else none else bif a2.1.snd.snd.fst then bif decide (0 < (↑(List.length a2.1.snd.snd.snd.fst) : Int)) then some (Out.ret (([], 70, ()), ())) else bif a2.1.snd.snd.fst then bif decide (0 ≤ spWid a0.1.snd.fst) && decide (spWid a0.1.snd.fst ≤ 8) then some (Out.ret ((spBE (-1) (spWid a0.1.snd.fst).toNat, 0, ()), ())) else none else bif decide (a0.1.snd.fst ≤ 6) then bif !(spUtf a2.1.snd.snd.snd.fst).snd then some (Out.ret (([], 6, ()), ())) else bif decide (255 < (↑(List.length a2.1.snd.snd.snd.fst) : Int)) then some (Out.ret (([], 4, ()), ())) else bif decide (0 ≤ spWid a0.1.snd.fst) && decide (spWid a0.1.snd.fst ≤ 8) then bif decide ((spBE (↑(List.length a2.1.snd.snd.snd.fst) : Int) (spWid a0.1.snd.fst).toNat).length + List.length a2.1.snd.snd.snd.fst ≤ 4294967296) then some (Out.ret ((spBE (↑(List.length a2.1.snd.snd.snd.fst) : Int) (spWid a0.1.snd.fst).toNat ++ a2.1.snd.snd.snd.fst, 0, ()), ())) else none else none else bif decide (0 ≤ spWid a0.1.snd.fst) && decide (spWid a0.1.snd.fst ≤ 8) then bif decide ((spBE (↑(List.length a2.1.snd.snd.snd.fst) : Int) (spWid a0.1.snd.fst).toNat).length + List.length a2.1.snd.snd.snd.fst ≤ 4294967296) then some (Out.ret ((spBE (↑(List.length a2.1.snd.snd.snd.fst) : Int) (spWid a0.1.snd.fst).toNat ++ a2.1.snd.snd.snd.fst, 0, ()), ())) else none else none else bif a2.1.snd.snd.fst then bif decide (0 ≤ spWid a0.1.snd.fst) && decide (spWid a0.1.snd.fst ≤ 8) then some (Out.ret ((spBE (-1) (spWid a0.1.snd.fst).toNat, 0, ()), ())) else none else bif decide (a0.1.snd.fst ≤ 6) then bif !(spUtf a2.1.snd.snd.snd.fst).snd then some (Out.ret (([], 6, ()), ())) else bif decide (255 < (↑(List.length a2.1.snd.snd.snd.fst) : Int)) then some (Out.ret (([], 4, ()), ())) else bif decide (0 ≤ spWid a0.1.snd.fst) && decide (spWid a0.1.snd.fst ≤ 8) then bif decide ((spBE (↑(List.length a2.1.snd.snd.snd.fst) : Int) (spWid a0.1.snd.fst).toNat).length + List.length a2.1.snd.snd.snd.fst ≤ 4294967296) then some (Out.ret ((spBE (↑(List.length a2.1.snd.snd.snd.fst) : Int) (spWid a0.1.snd.fst).toNat ++ a2.1.snd.snd.snd.fst, 0, ()), ())) else none else none else bif decide (0 ≤ spWid a0.1.snd.fst) && decide (spWid a0.1.snd.fst ≤ 8) then bif decide ((spBE (↑(List.length a2.1.snd.snd.snd.fst) : Int) (spWid a0.1.snd.fst).toNat).length + List.length a2.1.snd.snd.snd.fst ≤ 4294967296) then some (Out.ret ((spBE (↑(List.length a2.1.snd.snd.snd.fst) : Int) (spWid a0.1.snd.fst).toNat ++ a2.1.snd.snd.snd.fst, 0, ()), ())) else none else none
theorem runvValue (a0 : Fd) (a1 : Int) (a2 : Nd) : Io.run tt hdvValue dr lpvValue iovValue Go.Proofs.Tryz.f145 ((a0, a1, a2, ()), ()) = bodyvValue a0 a1 a2 := by kernel_rfl
theorem okvValueS (rvValue : HcOk prog 145 (ioHd iovValue (FvValueN spFuel))) (rvParts : HcOk prog 131 (ioHd iovParts (FvPartsN spFuel))) : HcOk prog 145 (ioHd iovValue (FvValueN (spFuel + 1))) := by
  refine fn_sound (n := 400) hm (cs := csvValue) (.cons oktShape (.cons oktWidth (.cons oknFits (.cons oknDigits (.cons rvValue (.cons rvParts (.cons okrUtf (.cons okCat .nil)))))))) (lp := lpvValue) (fn := Go.Proofs.Tryz.f145) (by kernel_rfl) (by kernel_rfl) (by kernel_rfl) iovValue (.step (h0 := loHd lovValue_14 FvValue_14) (by kernel_rfl) (loop_sound (n := 400) hm (cs := csvValue) (.cons oktShape (.cons oktWidth (.cons oknFits (.cons oknDigits (.cons rvValue (.cons rvParts (.cons okrUtf (.cons okCat .nil)))))))) (lp := lpvValue) (fn := Go.Proofs.Tryz.f145) (.done (by kernel_rfl)) lovValue_14 FvValue_14 ?_) (.done (by kernel_rfl))) (FvValueN (spFuel + 1)) ?_
  · rintro ⟨⟨(v : Int), (o : List Int), (i : Int), ⟨⟩⟩, ⟨⟨(nm : List Int), (k' : Int), (lo : Int), (hi : Int), (fs : List Fd), ⟨⟩⟩, ⟨(a : Int), (b : Int), (z : Bool), (x : List Int), (ks : List Nd), ⟨⟩⟩, ⟨⟩⟩⟩ y hw hy
    obtain ⟨hg, hy⟩ := Tr.guard hy
    simp only [Bool.and_eq_true, decide_eq_true_eq] at hg
    obtain ⟨h1, h2, ⟨h3, h4⟩, h5, h6⟩ := hg
    have h1 : i = 0 := h1
    have h2 : o.length = 4 := h2
    have h3 : fs.length ≠ 0 := h3
    have h4 : spArrs fs = true := h4
    have h5 : 2 * spWts ks + 1 ≤ spFuel := h5
    have h6 : 8 + 8 * spWts ks ≤ 4294967296 := h6
    subst h1
    obtain ⟨f0, fs, rfl⟩ : ∃ f0 fs', fs = f0 :: fs' := by cases fs with | nil => exact absurd rfl h3 | cons a b => exact ⟨a, b, rfl⟩
    refine ⟨ks.length + 1, (loopvValue (by have := hw.2.2.1.2.2.2.2.1.1; exact this) (spArrs_mem h4 (by simp)) h5 (by omega) nm k' lo hi a b z x (ks.length + 1) 0 o (by omega) (by omega) (by rw [List.drop_zero]; omega)).trans ?_⟩
    rw [← hy, List.drop_zero]
    by_cases h : (spVItems f0 v ks).2 = 0
    · rw [if_pos h]; exact (bif_true (decide_eq_true h) _ _).symm
    · rw [if_neg h]; exact (bif_false (decide_eq_false h) _ _).symm
  · rintro ⟨⟨(f : Fd), (v : Int), (n : Nd), ⟨⟩⟩, ⟨⟩⟩ out hw ho
    obtain ⟨hg, ho⟩ := Tr.guard ho
    simp only [Bool.and_eq_true, decide_eq_true_eq] at hg
    obtain ⟨hk, ha, hb⟩ := hg
    have hk : 2 * spWt n + 1 ≤ spFuel + 1 := hk
    have ha : spArr f = true := ha
    have hb : 8 * spWt n ≤ 4294967296 := hb
    cases ho
    refine (runvValue f v n).trans ?_
    unfold bodyvValue
    show _ = some (Out.ret (((spVal f v n).1, ((spVal f v n).2, ())), ()))
    obtain ⟨⟨nm, k', lo, hi, ⟨⟩⟩, fs⟩ := f
    obtain ⟨⟨a, b, z, x, ⟨⟩⟩, ks⟩ := n
    have hw8 := spWid_le k'
    have hwf := spWt_eq (Tre.mk (a, (b, (z, (x, ())))) ks)
    have hwf : spWt (Tre.mk (a, (b, (z, (x, ())))) ks) = 1 + x.length + spWts ks := hwf
    have hk : 2 * (1 + x.length + spWts ks) + 1 ≤ spFuel + 1 := by rw [← hwf]; exact hk
    have hb : 8 * (1 + x.length + spWts ks) ≤ 4294967296 := by rw [← hwf]; exact hb
    rw [spArr_eq] at ha
    simp only [Bool.and_eq_true] at ha
    obtain ⟨⟨ha1, ha3⟩, ha2⟩ := ha
    have ha2 : spArrs fs = true := ha2
    have ha3 : fs.length ≤ 16 := of_decide_eq_true ha3
    rw [spVal]
    simp only
    have cW : (decide (0 ≤ spWid k') && decide (spWid k' ≤ 8)) = true := by simp; omega
    have tail : (bif decide (0 ≤ spWid k') && decide (spWid k' ≤ 8) then bif decide ((spBE ((x.length : Nat) : Int) (spWid k').toNat).length + x.length ≤ 4294967296) then (some (Out.ret ((spBE ((x.length : Nat) : Int) (spWid k').toNat ++ x, ((0 : Int), ())), ())) : Option iovValue.Res) else none else none) = some (Out.ret ((spBE ((x.length : Nat) : Int) (spWid k').toNat ++ x, ((0 : Int), ())), ())) := by
      refine (bif_true cW _ _).trans ?_
      exact bif_true (decide_eq_true (by rw [spBE_len]; omega)) _ _
    by_cases h1 : spShN k' (Tre.mk (a, (b, (z, (x, ())))) ks) = false
    · rw [if_pos h1]
      exact bif_true (by rw [show spShN k' (Tre.mk (a, (b, (z, (x, ())))) ks) = false from h1]; rfl) _ _
    rw [if_neg h1]
    refine (bif_false (by simpa using h1) _ _).trans ?_
    by_cases h2 : k' ≤ 4
    · rw [if_pos h2]
      refine (bif_true (by simpa using h2) _ _).trans ?_
      refine (bif_true (decide_eq_true (show 1 ≤ spWid k' by omega)) _ _).trans ?_
      by_cases h3 : spFits b (spWid k') = true
      · rw [if_pos h3]
        refine (bif_false (show (!spFits b (spWid k')) = false by rw [h3]; rfl) _ _).trans ?_
        exact bif_true cW _ _
      · rw [if_neg h3]
        exact bif_true (show (!spFits b (spWid k')) = true by simpa using h3) _ _
    rw [if_neg h2]
    refine (bif_false (by simpa using h2) _ _).trans ?_
    by_cases h3 : k' = 9
    · rw [if_pos h3]
      refine (bif_true (by simpa using h3) _ _).trans ?_
      by_cases h4 : 16 < ks.length
      · rw [if_pos h4]
        exact bif_true (decide_eq_true (show (16 : Int) < (ks.length : Int) by omega)) _ _
      · rw [if_neg h4]
        refine (bif_false (decide_eq_false (show ¬ (16 : Int) < (ks.length : Int) by omega)) _ _).trans ?_
        have h0 : fs.length ≠ 0 := by
          rcases Bool.or_eq_true _ _ ▸ ha1 with h | h
          · exact absurd h3 (of_decide_eq_true h)
          · exact of_decide_eq_true h
        have c1 : (decide ((0 : Int) = 0) && (decide ((spBE ((ks.length : Nat) : Int) (Int.toNat 4)).length = 4) && ((decide (fs.length ≠ 0) && spArrs fs) && (decide (2 * spWts ks + 1 ≤ spFuel) && decide (8 + 8 * spWts ks ≤ 4294967296))))) = true := by
          have h0' : fs ≠ [] := fun e => h0 (by rw [e]; rfl)
          rw [ha2, spBE_len]; simp [h0']; omega
        obtain ⟨f0, fs, rfl⟩ : ∃ f0 fs', fs = f0 :: fs' := by cases fs with | nil => exact absurd rfl h0 | cons a b => exact ⟨a, b, rfl⟩
        refine (bif_true c1 _ _).trans ?_
        show (Tr.ite (decide ((spVItems f0 v ks).2 = 0)) _ _).run _ = some (Out.ret (((if (spVItems f0 v ks).2 ≠ 0 then _ else _ : List Int × Int).1, ((if (spVItems f0 v ks).2 ≠ 0 then _ else _ : List Int × Int).2, ())), ()))
        by_cases h5 : (spVItems f0 v ks).2 = 0
        · rw [if_neg (by simpa using h5)]
          exact bif_true (decide_eq_true h5) _ _
        · rw [if_pos h5]
          exact bif_false (decide_eq_false h5) _ _
    rw [if_neg h3]
    refine (bif_false (by simpa using h3) _ _).trans ?_
    by_cases h4 : k' = 10
    · rw [if_pos h4]
      refine (bif_true (by simpa using h4) _ _).trans ?_
      exact bif_true (show (decide (2 * spWt (Tre.mk (a, (b, (z, (x, ())))) ks) ≤ spFuel) && (spArrs fs && (decide (8 * spWt (Tre.mk (a, (b, (z, (x, ())))) ks) ≤ 4294967296) && decide (fs.length ≤ 4294967296)))) = true by rw [ha2, hwf]; simp; omega) _ _
    rw [if_neg h4]
    refine (bif_false (by simpa using h4) _ _).trans ?_
    have rest : (bif decide (k' ≤ 6) then bif !(spUtf x).2 then (some (Out.ret (([], ((6 : Int), ())), ())) : Option iovValue.Res) else bif decide ((255 : Int) < ((x.length : Nat) : Int)) then some (Out.ret (([], ((4 : Int), ())), ())) else bif decide (0 ≤ spWid k') && decide (spWid k' ≤ 8) then bif decide ((spBE ((x.length : Nat) : Int) (spWid k').toNat).length + x.length ≤ 4294967296) then (some (Out.ret ((spBE ((x.length : Nat) : Int) (spWid k').toNat ++ x, ((0 : Int), ())), ())) : Option iovValue.Res) else none else none
        else bif decide (0 ≤ spWid k') && decide (spWid k' ≤ 8) then bif decide ((spBE ((x.length : Nat) : Int) (spWid k').toNat).length + x.length ≤ 4294967296) then (some (Out.ret ((spBE ((x.length : Nat) : Int) (spWid k').toNat ++ x, ((0 : Int), ())), ())) : Option iovValue.Res) else none else none) =
        some (Out.ret (((if k' ≤ 6 ∧ (spUtf x).2 = false then ([], 6) else if k' ≤ 6 ∧ 255 < x.length then ([], 4) else (spBE ((x.length : Nat) : Int) (spWid k').toNat ++ x, 0) : List Int × Int).1, ((if k' ≤ 6 ∧ (spUtf x).2 = false then ([], 6) else if k' ≤ 6 ∧ 255 < x.length then ([], 4) else (spBE ((x.length : Nat) : Int) (spWid k').toNat ++ x, 0) : List Int × Int).2, ())), ())) := by
      rw [tail]
      by_cases h6 : k' ≤ 6
      · refine (bif_true (decide_eq_true h6) _ _).trans ?_
        by_cases h7 : (spUtf x).2 = false
        · rw [if_pos ⟨h6, h7⟩]
          exact bif_true (by rw [h7]; rfl) _ _
        · rw [if_neg (fun h => h7 h.2)]
          refine (bif_false (by simpa using h7) _ _).trans ?_
          by_cases h8 : 255 < x.length
          · rw [if_pos ⟨h6, h8⟩]
            exact bif_true (decide_eq_true (by omega)) _ _
          · rw [if_neg (fun h => h8 h.2)]
            exact bif_false (decide_eq_false (by omega)) _ _
      · rw [if_neg (fun h => h6 h.1), if_neg (fun h => h6 h.1)]
        exact bif_false (decide_eq_false h6) _ _
    by_cases h5 : z = true
    · subst h5
      rw [if_pos rfl]
      refine (bif_true rfl _ _).trans ?_
      by_cases h6 : x.length = 0
      · rw [if_pos h6]
        refine (bif_false (decide_eq_false (show ¬ (0 : Int) < ((x.length : Nat) : Int) by omega)) _ _).trans ?_
        refine (bif_true rfl _ _).trans ?_
        exact bif_true cW _ _
      · rw [if_neg h6]
        exact bif_true (decide_eq_true (show (0 : Int) < ((x.length : Nat) : Int) by omega)) _ _
    · have h5 : z = false := by simpa using h5
      subst h5
      rw [if_neg (by decide)]
      refine (bif_false rfl _ _).trans ?_
      refine (bif_false rfl _ _).trans ?_
      exact rest
end
/-! ### leat/leatref10.parts -/
section
variable [Inhabited FuT]
noncomputable abbrev csvParts : List (Nat × Hc) := [(144, ioHd iotHere FtHere), (145, ioHd iovValue (FvValueN spFuel)), (146, ioHd ioCat FCat)]
noncomputable def hdvParts : Hd := hdT csvParts
noncomputable abbrev lovParts_7 : Lo := ⟨⟨[.any, .one (.hol (.int IntKind.i64)), .any, .any, .any, .one (.ptr 5 0), .any, .any, .one (.onl 159 tFld 17), .one (.onl 5 (Ty.int IntKind.u8) 19), .one (.hol (.int IntKind.i64)), .any, .any, .any, .any, .any, .any, .any, .any, .any, .any, .any, .any, .any, .any, .any, .any, .any, .any, .any, .any, .any, .any, .any, .any, .any, .any, .any, .any, .any, .any, .any, .any, .any, .any, .any, .any, .any, .any, .any], [none, none, none, none, none, some [.hol (.int IntKind.i64), .hol (.int IntKind.i64), .hol .bool, .hol (.sl 5 (Ty.int IntKind.u8)), .hol (.sl 68 (((Ty.int IntKind.i64).prod ((Ty.int IntKind.i64).prod (Ty.bool.prod ((Ty.sl 5 (Ty.int IntKind.u8)).prod Ty.unit)))).tree 68))]]⟩, [(.ret, ⟨[.any, .any, .any, .any, .any, .any, .one (.onl 5 (Ty.int IntKind.u8) 13), .one (.hol (.int IntKind.i64)), .any, .any, .any, .any, .any, .any, .any, .any, .any, .any, .any, .any, .any, .any, .any, .any, .any, .any, .any, .any, .any, .any, .any, .any, .any, .any, .any, .any, .any, .any, .any, .any, .any, .any, .any, .any, .any, .any, .any, .any, .any, .any], []⟩), (.exit 0, ⟨[.any, .any, .any, .any, .any, .any, .any, .any, .any, .one (.onl 5 (Ty.int IntKind.u8) 19), .any, .any, .any, .any, .any, .any, .any, .any, .any, .any, .any, .any, .any, .any, .any, .any, .any, .any, .any, .any, .any, .any, .any, .any, .any, .any, .any, .any, .any, .any, .any, .any, .any, .any, .any, .any, .any, .any, .any, .any], []⟩)]⟩
-- FvParts_7 : lovParts_7.st.den → Tr (DenX lovParts_7.xs) | ((h3, (h4, (h5, (h6, ())))), ((h7, (h8, (h9, (h10, (h11, ()))))), ()))
noncomputable def FvParts_7 (d : lovParts_7.st.den) : Tr (DenX lovParts_7.xs) :=
  .ite (decide (d.1.2.2.2.1 = 0) && (decide (d.1.2.2.1.length = 0) && ((decide (d.1.2.1.length = d.2.1.2.2.2.2.1.length) && spArrs d.1.2.1) && (decide (2 * spWts d.2.1.2.2.2.2.1 + 1 ≤ spFuel) && decide (8 + 8 * spWts d.2.1.2.2.2.2.1 ≤ 4294967296)))))
    (.ite (decide ((spVZip d.1.1 d.1.2.1 d.2.1.2.2.2.2.1).2 = 0))
      (.ret (.pan (.ret ((), (((spVZip d.1.1 d.1.2.1 d.2.1.2.2.2.2.1).1, ()), ())))))
      (.ret (.ret ((), (([], ((spVZip d.1.1 d.1.2.1 d.2.1.2.2.2.2.1).2, ())), ()))))) .no
noncomputable def lpvParts : Lp := lpT [(7, loHd lovParts_7 FvParts_7)]
noncomputable def stepvParts_7 {R : Type} (h3 : Int) (h4 : List tFld.den) (h5 : List Int) (h6 : Int) (h7 : Int) (h8 : Int) (h9 : Bool) (h10 : List Int) (h11 : List (Nd)) (next : Int → List tFld.den → List Int → Int → Int → Int → Bool → List Int → List (Nd) → Option R) (out : DenX lovParts_7.xs → Option R) : Option R := bif decide (h6 < (↑h4.length : Int)) then bif decide (0 ≤ h6) && decide (h6 < (↑h4.length : Int)) then bif decide (0 ≤ h6) && decide (h6 < (↑h11.length : Int)) then bif decide (2 * spWt (Tre.mk (h11.getD h6.toNat (Tre.mk (0, 0, false, [], ()) [])).1 (h11.getD h6.toNat (Tre.mk (0, 0, false, [], ()) [])).2) + 1 ≤ spFuel) && (spArr (Tre.mk (h4.getD h6.toNat (Tre.mk ([], 0, 0, 0, ()) [])).1 (h4.getD h6.toNat (Tre.mk ([], 0, 0, 0, ()) [])).2) && decide (8 * spWt (Tre.mk (h11.getD h6.toNat (Tre.mk (0, 0, false, [], ()) [])).1 (h11.getD h6.toNat (Tre.mk (0, 0, false, [], ()) [])).2) ≤ 4294967296)) then bif (spVal (Tre.mk (h4.getD h6.toNat (Tre.mk ([], 0, 0, 0, ()) [])).1 (h4.getD h6.toNat (Tre.mk ([], 0, 0, 0, ()) [])).2) h3 (Tre.mk (h11.getD h6.toNat (Tre.mk (0, 0, false, [], ()) [])).1 (h11.getD h6.toNat (Tre.mk (0, 0, false, [], ()) [])).2)).snd != 0 then out (.ret ((), (([], ((spVal (Tre.mk (h4.getD h6.toNat (Tre.mk ([], 0, 0, 0, ()) [])).1 (h4.getD h6.toNat (Tre.mk ([], 0, 0, 0, ()) [])).2) h3 (Tre.mk (h11.getD h6.toNat (Tre.mk (0, 0, false, [], ()) [])).1 (h11.getD h6.toNat (Tre.mk (0, 0, false, [], ()) [])).2)).snd, ())), ()))) else bif decide (h5.length + (spVal (Tre.mk (h4.getD h6.toNat (Tre.mk ([], 0, 0, 0, ()) [])).1 (h4.getD h6.toNat (Tre.mk ([], 0, 0, 0, ()) [])).2) h3 (Tre.mk (h11.getD h6.toNat (Tre.mk (0, 0, false, [], ()) [])).1 (h11.getD h6.toNat (Tre.mk (0, 0, false, [], ()) [])).2)).fst.length ≤ 4294967296) then next (h3) (h4) (h5 ++ (spVal (Tre.mk (h4.getD h6.toNat (Tre.mk ([], 0, 0, 0, ()) [])).1 (h4.getD h6.toNat (Tre.mk ([], 0, 0, 0, ()) [])).2) h3 (Tre.mk (h11.getD h6.toNat (Tre.mk (0, 0, false, [], ()) [])).1 (h11.getD h6.toNat (Tre.mk (0, 0, false, [], ()) [])).2)).fst) (IntKind.i64.wrap (h6 + 1)) (h7) (h8) (h9) (h10) (h11) else none else none else none else none else out (.pan (.ret ((), ((h5, ()), ()))))
noncomputable def itvParts_7 (n : Nat) (h3 : Int) (h4 : List tFld.den) (h5 : List Int) (h6 : Int) (h7 : Int) (h8 : Int) (h9 : Bool) (h10 : List Int) (h11 : List (Nd)) : Option (DenX lovParts_7.xs) := lpN tt hdvParts dr lpvParts 0 Go.Proofs.Tryz.f131 (topL Go.Proofs.Tryz.f131 0) n (lovParts_7.st.mk' ((h3, (h4, (h5, (h6, ())))), ((h7, (h8, (h9, (h10, (h11, ()))))), ()))) (decX lovParts_7.xs)
theorem slvParts_7 (n : Nat) (h3 : Int) (h4 : List tFld.den) (h5 : List Int) (h6 : Int) (h7 : Int) (h8 : Int) (h9 : Bool) (h10 : List Int) (h11 : List (Nd)) : itvParts_7 (n + 1) h3 h4 h5 h6 h7 h8 h9 h10 h11 = stepvParts_7 h3 h4 h5 h6 h7 h8 h9 h10 h11 (itvParts_7 n) some := by kernel_rfl
theorem loopvParts {fs : List Fd} {ks : List Nd} {v : Int} (hl : ks.length ≤ maxLen) (hfk : fs.length = ks.length) (ha : spArrs fs = true) (hf : 2 * spWts ks + 1 ≤ spFuel) (hb : 8 * spWts ks ≤ 4294967296) (a b : Int) (z : Bool) (x : List Int) : ∀ (k j : Nat) (o : List Int), ks.length < j + k → j ≤ ks.length → o.length + 8 * spWts (ks.drop j) ≤ 4294967296 →
    itvParts_7 k v fs o j a b z x ks = if (spVZip v (fs.drop j) (ks.drop j)).2 = 0 then some (.pan (.ret ((), ((o ++ (spVZip v (fs.drop j) (ks.drop j)).1, ()), ())))) else some (.ret ((), (([], ((spVZip v (fs.drop j) (ks.drop j)).2, ())), ()))) := by
  intro k
  induction k with
  | zero => intro j o h1 h2; omega
  | succ k ih =>
    intro j o h1 h2 h3
    rw [slvParts_7]
    unfold stepvParts_7
    by_cases hj : j < ks.length
    · have hj' : j < fs.length := by omega
      refine (bif_true (decide_eq_true (show (j : Int) < (fs.length : Int) by omega)) _ _).trans ?_
      refine (bif_true (by simp; omega) _ _).trans ?_
      refine (bif_true (by simp; omega) _ _).trans ?_
      have hmem := spWt_mem (List.getElem_mem hj)
      have har := spArrs_mem ha (List.getElem_mem hj')
      have hd : ks.drop j = ks[j] :: ks.drop (j + 1) := List.drop_eq_getElem_cons hj
      have hd' : fs.drop j = fs[j] :: fs.drop (j + 1) := List.drop_eq_getElem_cons hj'
      have hvl := spVal_len fs[j] v ks[j]
      have ih' := ih (j + 1) (o ++ (spVal fs[j] v ks[j]).1) (by omega) (by omega)
      rw [hd, spWts_cons] at h3
      rw [hd, hd', spVZip]
      rw [wrap_succ hj hl]
      simp only [Int.toNat_natCast, getD_lt hj, getD_lt hj']
      generalize ks[j] = u at hmem hvl ih' h3 ⊢
      generalize fs[j] = f0 at har hvl ih' ⊢
      obtain ⟨ul, uk⟩ := u
      obtain ⟨fl, fk⟩ := f0
      refine (bif_true (show (decide (2 * spWt (Tre.mk ul uk) + 1 ≤ spFuel) && (spArr (Tre.mk fl fk) && decide (8 * spWt (Tre.mk ul uk) ≤ 4294967296))) = true by rw [har]; simp; omega) _ _).trans ?_
      by_cases he : (spVal (Tre.mk fl fk) v (Tre.mk ul uk)).2 = 0
      · refine (bif_false (show ((spVal (Tre.mk fl fk) v (Tre.mk ul uk)).2 != 0) = false by rw [he]; rfl) _ _).trans ?_
        refine (bif_true (decide_eq_true (show o.length + (spVal (Tre.mk fl fk) v (Tre.mk ul uk)).1.length ≤ 4294967296 by omega)) _ _).trans ?_
        refine (ih' (by rw [List.length_append]; omega)).trans ?_
        by_cases h2 : (spVZip v (fs.drop (j + 1)) (ks.drop (j + 1))).2 = 0
        · simp [he, h2]
        · simp [he, h2]
      · refine (bif_true (show ((spVal (Tre.mk fl fk) v (Tre.mk ul uk)).2 != 0) = true by simpa using he) _ _).trans ?_
        simp [he]
    · refine (bif_false (decide_eq_false (show ¬ (j : Int) < (fs.length : Int) by omega)) _ _).trans ?_
      rw [List.drop_of_length_le (by omega), List.drop_of_length_le (by omega), spVZip, if_pos rfl, List.append_nil]
      simp
noncomputable def bodyvParts (a0 : List tFld.den) (a1 : Int) (a2 : Nd) : Option iovParts.Res := bif decide (a0.length ≤ 4294967296) then bif (↑a2.2.length : Int) != (↑(spHere a0 a1).length : Int) then some (Out.ret (([], 101, ()), ())) else (FvParts_7 ((a1, (spHere a0 a1, ([], (0, ())))), ((a2.1.fst, (a2.1.snd.fst, (a2.1.snd.snd.fst, (a2.1.snd.snd.snd.fst, (a2.2, ()))))), ()))).run fun y => match y with | .ret ((), ((x24, x25, ()), ())) => (some (Out.ret ((x24, x25, ()), ()))) | .pan (.ret ((), ((x26, ()), ()))) => (some (Out.ret ((x26, 0, ()), ()))) else none
theorem runvParts (a0 : List tFld.den) (a1 : Int) (a2 : Nd) : Io.run tt hdvParts dr lpvParts iovParts Go.Proofs.Tryz.f131 ((a0, a1, a2, ()), ()) = bodyvParts a0 a1 a2 := by kernel_rfl
theorem okvPartsS (rvValue : HcOk prog 145 (ioHd iovValue (FvValueN spFuel))) : HcOk prog 131 (ioHd iovParts (FvPartsN (spFuel + 1))) := by
  refine fn_sound (n := 400) hm (cs := csvParts) (.cons oktHere (.cons rvValue (.cons okCat .nil))) (lp := lpvParts) (fn := Go.Proofs.Tryz.f131) (by kernel_rfl) (by kernel_rfl) (by kernel_rfl) iovParts (.step (h0 := loHd lovParts_7 FvParts_7) (by kernel_rfl) (loop_sound (n := 400) hm (cs := csvParts) (.cons oktHere (.cons rvValue (.cons okCat .nil))) (lp := lpvParts) (fn := Go.Proofs.Tryz.f131) (.done (by kernel_rfl)) lovParts_7 FvParts_7 ?_) (.done (by kernel_rfl))) (FvPartsN (spFuel + 1)) ?_
  · rintro ⟨⟨(v : Int), (fs : List Fd), (o : List Int), (i : Int), ⟨⟩⟩, ⟨⟨(a : Int), (b : Int), (z : Bool), (x : List Int), (ks : List Nd), ⟨⟩⟩, ⟨⟩⟩⟩ y hw hy
    obtain ⟨hg, hy⟩ := Tr.guard hy
    simp only [Bool.and_eq_true, decide_eq_true_eq] at hg
    obtain ⟨h1, h2, ⟨h3, h4⟩, h5, h6⟩ := hg
    have h1 : i = 0 := h1
    have h2 : o = [] := List.eq_nil_of_length_eq_zero h2
    have h3 : fs.length = ks.length := h3
    have h4 : spArrs fs = true := h4
    have h5 : 2 * spWts ks + 1 ≤ spFuel := h5
    have h6 : 8 + 8 * spWts ks ≤ 4294967296 := h6
    subst h1
    subst h2
    refine ⟨ks.length + 1, (loopvParts (by have := hw.2.1.2.2.2.2.1.1; exact this) h3 h4 h5 (by omega) a b z x (ks.length + 1) 0 [] (by omega) (by omega) (by rw [List.drop_zero]; simp; omega)).trans ?_⟩
    rw [← hy, List.drop_zero, List.drop_zero]
    by_cases h : (spVZip v fs ks).2 = 0
    · rw [if_pos h]; exact (bif_true (decide_eq_true h) _ _).symm
    · rw [if_neg h]; exact (bif_false (decide_eq_false h) _ _).symm
  · rintro ⟨⟨(fs : List Fd), (v : Int), (n : Nd), ⟨⟩⟩, ⟨⟩⟩ out hw ho
    obtain ⟨hg, ho⟩ := Tr.guard ho
    simp only [Bool.and_eq_true, decide_eq_true_eq] at hg
    obtain ⟨hk, ha, hb, hl⟩ := hg
    have hk : 2 * spWt n ≤ spFuel + 1 := hk
    have ha : spArrs fs = true := ha
    have hb : 8 * spWt n ≤ 4294967296 := hb
    have hl : fs.length ≤ 4294967296 := hl
    cases ho
    refine (runvParts fs v n).trans ?_
    unfold bodyvParts
    show _ = some (Out.ret (((spVParts fs v n).1, ((spVParts fs v n).2, ())), ()))
    obtain ⟨⟨a, b, z, x, ⟨⟩⟩, ks⟩ := n
    have hwf := spWt_eq (Tre.mk (a, (b, (z, (x, ())))) ks)
    have hwf : spWt (Tre.mk (a, (b, (z, (x, ())))) ks) = 1 + x.length + spWts ks := hwf
    have hk : 2 * (1 + x.length + spWts ks) ≤ spFuel + 1 := by rw [← hwf]; exact hk
    have hb : 8 * (1 + x.length + spWts ks) ≤ 4294967296 := by rw [← hwf]; exact hb
    rw [spVParts]
    refine (bif_true (decide_eq_true hl) _ _).trans ?_
    by_cases h1 : ks.length = (spHere fs v).length
    · rw [if_neg (by simpa using h1)]
      refine (bif_false (by simp [h1]) _ _).trans ?_
      have c1 : (decide ((0 : Int) = 0) && (decide (([] : List Int).length = 0) && ((decide ((spHere fs v).length = ks.length) && spArrs (spHere fs v)) && (decide (2 * spWts ks + 1 ≤ spFuel) && decide (8 + 8 * spWts ks ≤ 4294967296))))) = true := by
        rw [spArrs_here ha]; simp; omega
      refine (bif_true c1 _ _).trans ?_
      by_cases h5 : (spVZip v (spHere fs v) ks).2 = 0
      · refine (bif_true (decide_eq_true h5) _ _).trans ?_
        rw [h5]; rfl
      · refine (bif_false (decide_eq_false h5) _ _).trans ?_
        rw [spVZip_nil h5]; rfl
    · rw [if_pos h1]
      exact bif_true (bne_iff_ne.2 (fun e => h1 (Int.ofNat.inj e))) _ _
end
theorem okvBoth (n : Nat) : HcOk prog 145 (ioHd iovValue (FvValueN n)) ∧ HcOk prog 131 (ioHd iovParts (FvPartsN n)) := by
  induction n with
  | zero => 
    refine ⟨HcOk.none (fn := Go.Proofs.Tryz.f145) (by kernel_rfl) (by kernel_rfl) (by kernel_rfl) _ _ fun d out h => ?_, HcOk.none (fn := Go.Proofs.Tryz.f131) (by kernel_rfl) (by kernel_rfl) (by kernel_rfl) _ _ fun d out h => ?_⟩
    · cases h
    · obtain ⟨hg, h⟩ := Tr.guard h
      simp only [Bool.and_eq_true, decide_eq_true_eq] at hg
      have := spWt_pos d.1.2.2.1
      omega
  | succ n ih =>
    have h1 := @okvValueS ⟨⟨n⟩⟩ (by rw [FuT.val]; exact ih.1) (by rw [FuT.val]; exact ih.2)
    have h2 := @okvPartsS ⟨⟨n⟩⟩ (by rw [FuT.val]; exact ih.1)
    rw [FuT.val] at h1 h2
    exact ⟨h1, h2⟩
theorem okvValue : HcOk prog 145 (ioHd iovValue FvValue) := by
  refine HcOk.lim (fun n => (okvBoth n).1) fun d => ⟨2 * spWt d.1.2.2.1 + 1, fun out h => ?_⟩
  obtain ⟨hg, h⟩ := Tr.guard h
  exact (bif_true (by rw [hg]; simp) _ _).trans h
theorem okvParts : HcOk prog 131 (ioHd iovParts FvParts) := by
  refine HcOk.lim (fun n => (okvBoth n).2) fun d => ⟨2 * spWt d.1.2.2.1, fun out h => ?_⟩
  obtain ⟨hg, h⟩ := Tr.guard h
  exact (bif_true (by rw [hg]; simp) _ _).trans h
end
end Go.Proofs.YtmlgepgcofmpeaaGreat.Sym

/- leatref10: list, field, Check, begin, Encode. -/
namespace Go.Proofs.YtmlgepgcofmpeaaGreat.Sym
open Go
set_option linter.unusedSimpArgs false
set_option linter.unusedVariables false
noncomputable section

@[irreducible] noncomputable def spFw (f : Fd) : Nat := f.wt fun _ => 0
@[irreducible] noncomputable def spFws (l : List Fd) : Nat := Tre.wts (fun _ => 0) l
theorem spFw_eq (f : Fd) : spFw f = 1 + spFws f.kids := by unfold spFw spFws; exact Tre.wt_eq _ f
theorem spFw_mem {k : Fd} {l : List Fd} (h : k ∈ l) : spFw k ≤ spFws l := by unfold spFw spFws; exact Tre.wts_mem h
theorem spFws_len (l : List Fd) : l.length ≤ spFws l := by unfold spFws; exact Tre.wts_len _ l
/-- Has each of these versions a field? -/
def spVers (ks : List Fd) : Nat → Int → Int → Bool
  | 0, _, _ => true
  | k + 1, v, hi => if v ≤ hi then (if (spHere ks v).length = 0 then false else spVers ks k (v + 1) hi) else true
/-- Is the name none of those ahead? -/
def spNew (ks : List Fd) (s : List Int) : Bool := ks.all fun k => !decide (k.lab.1 = s)
def spDist (ks : List Fd) : Nat → List Fd → Bool
  | _, [] => true
  | j, f :: fs => spNew (ks.take j) f.lab.1 && spDist ks (j + 1) fs
mutual
noncomputable def spFieldOk (d : Int) : Fd → Bool
  | .mk a ks => if a.1.length = 0 then false else if a.2.2.1 < 0 then false else if 3 < a.2.2.2.1 then false else if a.2.2.2.1 < a.2.2.1 then false else if a.2.1 < 1 then false else if 10 < a.2.1 then false
      else if a.2.1 < 9 then (if ks.length = 0 then true else false) else if spListOk (d + 1) ks = false then false else if spVers ks 5 a.2.2.1 a.2.2.2.1 = false then false else if a.2.1 = 10 then true else if ks.length = 1 then true else false
termination_by f => (SizeOf.sizeOf f, 0)
noncomputable def spListOk (d : Int) (ks : List Fd) : Bool := if ks.length < 1 then false else if 16 < ks.length then false else if 8 < d then false else spDist ks 0 ks && spFieldsOk d ks
termination_by (SizeOf.sizeOf ks, 1)
noncomputable def spFieldsOk (d : Int) : List Fd → Bool
  | [] => true
  | k :: ks => spFieldOk d k && spFieldsOk d ks
termination_by l => (SizeOf.sizeOf l, 0)
end
/-! ### leat/leatref10.list -/
noncomputable abbrev iovList : Io := ⟨[dFlds, dI], [], [], [dB], none⟩
noncomputable def FvListN (n : Nat) (d : iovList.In) : Tr iovList.Res := .ite (decide (2 * spFws d.1.1 + 2 ≤ n) && (decide ((0 : Int) ≤ d.1.2.1) && decide (d.1.2.1 ≤ 1000))) (.ret (.ret ((spListOk d.1.2.1 d.1.1, ()), ()))) .no
noncomputable def FvList (d : iovList.In) : Tr iovList.Res := .ite ((decide ((0 : Int) ≤ d.1.2.1) && decide (d.1.2.1 ≤ 1000))) (.ret (.ret ((spListOk d.1.2.1 d.1.1, ()), ()))) .no
noncomputable abbrev iovField : Io := ⟨[dFld, dI], [], [], [dB], none⟩
noncomputable def FvFieldN (n : Nat) (d : iovField.In) : Tr iovField.Res := .ite (decide (2 * spFw d.1.1 + 1 ≤ n) && (decide ((0 : Int) ≤ d.1.2.1) && decide (d.1.2.1 ≤ 999))) (.ret (.ret ((spFieldOk d.1.2.1 d.1.1, ()), ()))) .no
section
variable [Inhabited FuT]
noncomputable abbrev csvList : List (Nat × Hc) := [(160, ioHd iovField (FvFieldN spFuel))]
noncomputable def hdvList : Hd := hdT csvList
noncomputable abbrev lovList_8 : Lo := ⟨⟨[.one (.hol (.sl 159 tFld)), .one (.hol (.int IntKind.i64)), .any, .any, .any, .one (.hol (.int IntKind.i64)), .one (.hol (.int IntKind.i64)), .any, .any, .any, .any, .any, .any, .any, .any, .any, .any, .any, .any, .any, .any, .any, .any, .any, .any, .any, .any, .any, .any, .any, .any, .any, .any, .any, .any, .any, .any, .any, .any, .any, .any, .any, .any, .any, .any, .any, .any, .any], []⟩, [(.ret, ⟨[.any, .any, .any, .any, .one (.hol .bool), .any, .any, .any, .any, .any, .any, .any, .any, .any, .any, .any, .any, .any, .any, .any, .any, .any, .any, .any, .any, .any, .any, .any, .any, .any, .any, .any, .any, .any, .any, .any, .any, .any, .any, .any, .any, .any, .any, .any, .any, .any, .any, .any], []⟩), (.exit 2, ⟨[.one (.hol (.sl 159 tFld)), .one (.hol (.int IntKind.i64)), .any, .any, .any, .one (.hol (.int IntKind.i64)), .any, .any, .any, .any, .any, .any, .any, .any, .any, .any, .any, .any, .any, .any, .any, .any, .any, .any, .any, .any, .any, .any, .any, .any, .any, .any, .any, .any, .any, .any, .any, .any, .any, .any, .any, .any, .any, .any, .any, .any, .any, .any], []⟩)]⟩
-- FvList_8 : lovList_8.st.den → Tr (DenX lovList_8.xs) | ((h5, (h6, (h7, (h8, ())))), ())
noncomputable abbrev lovList_5 : Lo := ⟨⟨[.one (.hol (.sl 159 tFld)), .one (.hol (.int IntKind.i64)), .any, .any, .any, .one (.hol (.int IntKind.i64)), .any, .any, .any, .any, .any, .any, .any, .any, .any, .any, .any, .any, .any, .any, .any, .any, .any, .any, .any, .any, .any, .any, .any, .any, .any, .any, .any, .any, .any, .any, .any, .any, .any, .any, .any, .any, .any, .any, .any, .any, .any, .any], []⟩, [(.ret, ⟨[.any, .any, .any, .any, .one (.hol .bool), .any, .any, .any, .any, .any, .any, .any, .any, .any, .any, .any, .any, .any, .any, .any, .any, .any, .any, .any, .any, .any, .any, .any, .any, .any, .any, .any, .any, .any, .any, .any, .any, .any, .any, .any, .any, .any, .any, .any, .any, .any, .any, .any], []⟩), (.exit 0, ⟨[.any, .any, .any, .any, .any, .any, .any, .any, .any, .any, .any, .any, .any, .any, .any, .any, .any, .any, .any, .any, .any, .any, .any, .any, .any, .any, .any, .any, .any, .any, .any, .any, .any, .any, .any, .any, .any, .any, .any, .any, .any, .any, .any, .any, .any, .any, .any, .any], []⟩)]⟩
-- FvList_5 : lovList_5.st.den → Tr (DenX lovList_5.xs) | ((h2, (h3, (h4, ()))), ())
noncomputable def FvList_8 (d : lovList_8.st.den) : Tr (DenX lovList_8.xs) :=
  .ite (decide (d.1.2.2.2.1 = 0) && (decide ((0 : Int) ≤ d.1.2.2.1) && decide (d.1.2.2.1 < (d.1.1.length : Int))))
    (.ite (spNew (d.1.1.take d.1.2.2.1.toNat) (d.1.1.getD d.1.2.2.1.toNat (Tre.mk ([], (0, (0, (0, ())))) [])).lab.1) (.ret (.pan (.ret ((), ((d.1.1, (d.1.2.1, (d.1.2.2.1, ()))), ()))))) (.ret (.ret ((), ((false, ()), ()))))) .no
noncomputable def FvList_5 (d : lovList_5.st.den) : Tr (DenX lovList_5.xs) :=
  .ite (decide (d.1.2.2.1 = 0) && ((decide ((0 : Int) ≤ d.1.2.1) && decide (d.1.2.1 ≤ 999)) && (decide (2 * spFws d.1.1 + 1 ≤ spFuel) && decide (d.1.1.length ≤ 16))))
    (.ite (spDist d.1.1 0 d.1.1 && spFieldsOk d.1.2.1 d.1.1) (.ret (.pan (.ret ((), ((), ()))))) (.ret (.ret ((), ((false, ()), ()))))) .no
noncomputable def lpvList : Lp := lpT [(5, loHd lovList_5 FvList_5), (8, loHd lovList_8 FvList_8)]
noncomputable def stepvList_8 {R : Type} (h5 : List tFld.den) (h6 : Int) (h7 : Int) (h8 : Int) (next : List tFld.den → Int → Int → Int → Option R) (out : DenX lovList_8.xs → Option R) : Option R := bif decide (h8 < h7) then bif decide (0 ≤ h8) && decide (h8 < (↑h5.length : Int)) then bif decide (0 ≤ h7) && decide (h7 < (↑h5.length : Int)) then bif decide ((h5.getD h8.toNat (Tre.mk ([], 0, 0, 0, ()) [])).1.fst = (h5.getD h7.toNat (Tre.mk ([], 0, 0, 0, ()) [])).1.fst) then out (.ret ((), ((false, ()), ()))) else next (h5) (h6) (h7) (IntKind.i64.wrap (h8 + 1)) else none else none else out (.pan (.ret ((), ((h5, (h6, (h7, ()))), ()))))
noncomputable def itvList_8 (n : Nat) (h5 : List tFld.den) (h6 : Int) (h7 : Int) (h8 : Int) : Option (DenX lovList_8.xs) := lpN tt hdvList dr lpvList 0 Go.Proofs.Tryz.f153 (subL Go.Proofs.Tryz.f153 (topL Go.Proofs.Tryz.f153 0) 0) n (lovList_8.st.mk' ((h5, (h6, (h7, (h8, ())))), ())) (decX lovList_8.xs)
theorem slvList_8 (n : Nat) (h5 : List tFld.den) (h6 : Int) (h7 : Int) (h8 : Int) : itvList_8 (n + 1) h5 h6 h7 h8 = stepvList_8 h5 h6 h7 h8 (itvList_8 n) some := by kernel_rfl
noncomputable def stepvList_5 {R : Type} (h2 : List tFld.den) (h3 : Int) (h4 : Int) (next : List tFld.den → Int → Int → Option R) (out : DenX lovList_5.xs → Option R) : Option R := bif decide (h4 < (↑h2.length : Int)) then (FvList_8 ((h2, (h3, (h4, (0, ())))), ())).run fun y => match y with | .ret ((), ((x17, ()), ())) => (out (.ret ((), ((x17, ()), ())))) | .pan (.ret ((), ((x19, x20, x21, ()), ()))) => (bif decide (0 ≤ x21) && decide (x21 < (↑x19.length : Int)) then bif decide (2 * spFw (Tre.mk (x19.getD x21.toNat (Tre.mk ([], 0, 0, 0, ()) [])).1 (x19.getD x21.toNat (Tre.mk ([], 0, 0, 0, ()) [])).2) + 1 ≤ spFuel) && (decide (0 ≤ x20) && decide (x20 ≤ 999)) then bif !spFieldOk x20 (Tre.mk (x19.getD x21.toNat (Tre.mk ([], 0, 0, 0, ()) [])).1 (x19.getD x21.toNat (Tre.mk ([], 0, 0, 0, ()) [])).2) then out (.ret ((), ((false, ()), ()))) else next (x19) (x20) (IntKind.i64.wrap (x21 + 1)) else none else none) else out (.pan (.ret ((), ((), ()))))
noncomputable def itvList_5 (n : Nat) (h2 : List tFld.den) (h3 : Int) (h4 : Int) : Option (DenX lovList_5.xs) := lpN tt hdvList dr lpvList 0 Go.Proofs.Tryz.f153 (topL Go.Proofs.Tryz.f153 0) n (lovList_5.st.mk' ((h2, (h3, (h4, ()))), ())) (decX lovList_5.xs)
theorem slvList_5 (n : Nat) (h2 : List tFld.den) (h3 : Int) (h4 : Int) : itvList_5 (n + 1) h2 h3 h4 = stepvList_5 h2 h3 h4 (itvList_5 n) some := by kernel_rfl
theorem loopvList_8 {fs : List Fd} (d : Int) {i : Nat} (hi : i < fs.length) (hl : fs.length ≤ maxLen) : ∀ (k j : Nat), i < j + k → j ≤ i → spNew (fs.take j) (fs[i]).lab.1 = true →
    itvList_8 k fs d i j = if spNew (fs.take i) (fs[i]).lab.1 = true then some (.pan (.ret ((), ((fs, (d, ((i : Int), ()))), ())))) else some (.ret ((), ((false, ()), ()))) := by
  intro k
  induction k with
  | zero => intro j h1 h2; omega
  | succ k ih =>
    intro j h1 h2 h3
    rw [slvList_8]
    unfold stepvList_8
    by_cases hj : j < i
    · have hjl : j < fs.length := by omega
      refine (bif_true (decide_eq_true (show (j : Int) < (i : Int) by omega)) _ _).trans ?_
      refine (bif_true (by simp; omega) _ _).trans ?_
      refine (bif_true (by simp; omega) _ _).trans ?_
      rw [wrap_succ hjl hl]
      simp only [Int.toNat_natCast, getD_lt hi, getD_lt hjl]
      by_cases he : (fs[j]).lab.1 = (fs[i]).lab.1
      · refine (bif_true (decide_eq_true he) _ _).trans ?_
        rw [if_neg]
        intro h
        have hm : fs[j] ∈ fs.take i := by rw [List.mem_take_iff_getElem]; exact ⟨j, by omega, rfl⟩
        have := List.all_eq_true.1 h fs[j] hm
        simp [he] at this
      · refine (bif_false (decide_eq_false he) _ _).trans ?_
        refine ih (j + 1) (by omega) (by omega) ?_
        rw [List.take_succ_eq_append_getElem hjl]
        unfold spNew at h3 ⊢
        rw [List.all_append, h3]
        simp [he]
    · refine (bif_false (decide_eq_false (show ¬ (j : Int) < (i : Int) by omega)) _ _).trans ?_
      have : j = i := by omega
      rw [if_pos (this ▸ h3)]
theorem loopvList_5 {fs : List Fd} {d : Int} (hd : 0 ≤ d ∧ d ≤ 999) (hf : 2 * spFws fs + 1 ≤ spFuel) (hl : fs.length ≤ 16) : ∀ (k j : Nat), fs.length < j + k → j ≤ fs.length →
    itvList_5 k fs d j = if (spDist fs j (fs.drop j) && spFieldsOk d (fs.drop j)) = true then some (.pan (.ret ((), ((), ())))) else some (.ret ((), ((false, ()), ()))) := by
  intro k
  induction k with
  | zero => intro j h1 h2; omega
  | succ k ih =>
    intro j h1 h2
    rw [slvList_5]
    unfold stepvList_5
    by_cases hj : j < fs.length
    · refine (bif_true (decide_eq_true (show (j : Int) < (fs.length : Int) by omega)) _ _).trans ?_
      have hdr : fs.drop j = fs[j] :: fs.drop (j + 1) := List.drop_eq_getElem_cons hj
      have hmem := spFw_mem (List.getElem_mem hj)
      have ih' := ih (j + 1) (by omega) (by omega)
      rw [hdr, spDist, spFieldsOk]
      have hgd : fs.getD ((j : Int)).toNat (Tre.mk (([] : List Int), ((0 : Int), ((0 : Int), ((0 : Int), ())))) ([] : List Fd)) = fs[j] := by simp only [Int.toNat_natCast]; exact getD_lt hj
      have c8 : (decide ((0 : Int) = 0) && (decide ((0 : Int) ≤ (j : Int)) && decide ((j : Int) < (fs.length : Int)))) = true := by simp; omega
      have e8 : FvList_8 ((fs, (d, ((j : Int), ((0 : Int), ())))), ()) = .ite true (.ite (spNew (fs.take j) (fs[j]).lab.1) (.ret (.pan (.ret ((), ((fs, (d, ((j : Int), ()))), ()))))) (.ret (.ret ((), ((false, ()), ()))))) .no := by
        unfold FvList_8
        rw [← c8]
        show Tr.ite _ (Tr.ite (spNew (fs.take ((j : Int)).toNat) (fs.getD ((j : Int)).toNat _).lab.1) _ _) _ = _
        rw [hgd]; simp only [Int.toNat_natCast]
      rw [e8]
      by_cases hn : spNew (fs.take j) (fs[j]).lab.1 = true
      · rw [hn]
        show (bif decide (0 ≤ (j : Int)) && decide ((j : Int) < (fs.length : Int)) then _ else none) = _
        refine (bif_true (by simp; omega) _ _).trans ?_
        rw [wrap_i64 (n := (j : Int) + 1) (by omega) (by omega)]
        simp only [Int.toNat_natCast, getD_lt hj]
        generalize fs[j] = f0 at hmem ⊢
        obtain ⟨fl, fk⟩ := f0
        refine (bif_true (show (decide (2 * spFw (Tre.mk fl fk) + 1 ≤ spFuel) && (decide ((0 : Int) ≤ d) && decide (d ≤ 999))) = true by simp; omega) _ _).trans ?_
        by_cases hv : spFieldOk d (Tre.mk fl fk) = true
        · refine (bif_false (show (!spFieldOk d (Tre.mk fl fk)) = false by rw [hv]; rfl) _ _).trans ?_
          refine ih'.trans ?_
          rw [hv]; simp
        · refine (bif_true (show (!spFieldOk d (Tre.mk fl fk)) = true by simpa using hv) _ _).trans ?_
          simp [hv]
      · have hn : spNew (fs.take j) (fs[j]).lab.1 = false := by simpa using hn
        rw [hn]
        rfl
    · refine (bif_false (decide_eq_false (show ¬ (j : Int) < (fs.length : Int) by omega)) _ _).trans ?_
      rw [List.drop_of_length_le (by omega), spDist, spFieldsOk]
      rfl
noncomputable def bodyvList (a0 : List tFld.den) (a1 : Int) : Option iovList.Res := bif decide ((↑a0.length : Int) < 1) then some (Out.ret ((false, ()), ())) else bif decide (16 < (↑a0.length : Int)) then some (Out.ret ((false, ()), ())) else bif decide (8 < a1) then some (Out.ret ((false, ()), ())) else (FvList_5 ((a0, (a1, (0, ()))), ())).run fun y => match y with | .ret ((), ((x26, ()), ())) => (some (Out.ret ((x26, ()), ()))) | .pan (.ret ((), ((), ()))) => (some (Out.ret ((true, ()), ())))
theorem runvList (a0 : List tFld.den) (a1 : Int) : Io.run tt hdvList dr lpvList iovList Go.Proofs.Tryz.f153 ((a0, a1, ()), ()) = bodyvList a0 a1 := by kernel_rfl
theorem okvListS (rvField : HcOk prog 160 (ioHd iovField (FvFieldN spFuel))) : HcOk prog 153 (ioHd iovList (FvListN (spFuel + 1))) := by
  refine fn_sound (n := 400) hm (cs := csvList) (.cons rvField .nil) (lp := lpvList) (fn := Go.Proofs.Tryz.f153) (by kernel_rfl) (by kernel_rfl) (by kernel_rfl) iovList (.step (h0 := loHd lovList_5 FvList_5) (by kernel_rfl) (loop_sound (n := 400) hm (cs := csvList) (.cons rvField .nil) (lp := lpvList) (fn := Go.Proofs.Tryz.f153) (.step (h0 := loHd lovList_8 FvList_8) (by kernel_rfl) (loop_sound (n := 400) hm (cs := csvList) (.cons rvField .nil) (lp := lpvList) (fn := Go.Proofs.Tryz.f153) (.done (by kernel_rfl)) lovList_8 FvList_8 ?_) (.done (by kernel_rfl))) lovList_5 FvList_5 ?_) (.done (by kernel_rfl))) (FvListN (spFuel + 1)) ?_
  · rintro ⟨⟨(fs : List Fd), (d : Int), (i : Int), (j : Int), ⟨⟩⟩, ⟨⟩⟩ y hw hy
    obtain ⟨hg, hy⟩ := Tr.guard hy
    simp only [Bool.and_eq_true, decide_eq_true_eq] at hg
    obtain ⟨h1, h2, h3⟩ := hg
    have h1 : j = 0 := h1
    have h2 : 0 ≤ i := h2
    have h3 : i < (fs.length : Int) := h3
    subst h1
    obtain ⟨i, rfl⟩ := toNat_of h2
    have hi : i < fs.length := by omega
    refine ⟨i + 1, (loopvList_8 d hi hw.1.1.1 (i + 1) 0 (by omega) (by omega) (by simp [spNew])).trans ?_⟩
    rw [← hy]
    have hgd : fs.getD ((i : Int)).toNat (Tre.mk (([] : List Int), ((0 : Int), ((0 : Int), ((0 : Int), ())))) ([] : List Fd)) = fs[i] := by simp only [Int.toNat_natCast]; exact getD_lt hi
    show _ = (Tr.ite (spNew (fs.take ((i : Int)).toNat) (fs.getD ((i : Int)).toNat _).lab.1) _ _).val
    rw [hgd]
    simp only [Int.toNat_natCast]
    by_cases h : spNew (fs.take i) (fs[i]).lab.1 = true
    · rw [if_pos h]; exact (bif_true h _ _).symm
    · rw [if_neg h]; exact (bif_false (by simpa using h) _ _).symm
  · rintro ⟨⟨(fs : List Fd), (d : Int), (i : Int), ⟨⟩⟩, ⟨⟩⟩ y hw hy
    obtain ⟨hg, hy⟩ := Tr.guard hy
    simp only [Bool.and_eq_true, decide_eq_true_eq] at hg
    obtain ⟨h1, ⟨h2, h3⟩, h4, h5⟩ := hg
    have h1 : i = 0 := h1
    have h2 : 0 ≤ d := h2
    have h3 : d ≤ 999 := h3
    have h4 : 2 * spFws fs + 1 ≤ spFuel := h4
    have h5 : fs.length ≤ 16 := h5
    subst h1
    refine ⟨fs.length + 1, (loopvList_5 ⟨h2, h3⟩ h4 h5 (fs.length + 1) 0 (by omega) (by omega)).trans ?_⟩
    rw [← hy, List.drop_zero]
    by_cases h : (spDist fs 0 fs && spFieldsOk d fs) = true
    · rw [if_pos h]; exact (bif_true h _ _).symm
    · rw [if_neg h]; exact (bif_false (by simpa using h) _ _).symm
  · rintro ⟨⟨(fs : List Fd), (d : Int), ⟨⟩⟩, ⟨⟩⟩ out hw ho
    obtain ⟨hg, ho⟩ := Tr.guard ho
    simp only [Bool.and_eq_true, decide_eq_true_eq] at hg
    obtain ⟨hk, hd1, hd2⟩ := hg
    have hk : 2 * spFws fs + 2 ≤ spFuel + 1 := hk
    have hd1 : 0 ≤ d := hd1
    have hd2 : d ≤ 1000 := hd2
    cases ho
    refine (runvList fs d).trans ?_
    unfold bodyvList
    show _ = some (Out.ret ((spListOk d fs, ()), ()))
    rw [spListOk]
    by_cases h1 : fs.length < 1
    · rw [if_pos h1]
      exact bif_true (decide_eq_true (by omega)) _ _
    rw [if_neg h1]
    refine (bif_false (decide_eq_false (by omega)) _ _).trans ?_
    by_cases h2 : 16 < fs.length
    · rw [if_pos h2]
      exact bif_true (decide_eq_true (by omega)) _ _
    rw [if_neg h2]
    refine (bif_false (decide_eq_false (by omega)) _ _).trans ?_
    by_cases h3 : 8 < d
    · rw [if_pos h3]
      exact bif_true (decide_eq_true h3) _ _
    rw [if_neg h3]
    refine (bif_false (decide_eq_false h3) _ _).trans ?_
    have c1 : (decide ((0 : Int) = 0) && ((decide ((0 : Int) ≤ d) && decide (d ≤ 999)) && (decide (2 * spFws fs + 1 ≤ spFuel) && decide (fs.length ≤ 16)))) = true := by simp; omega
    refine (bif_true c1 _ _).trans ?_
    by_cases h : (spDist fs 0 fs && spFieldsOk d fs) = true
    · rw [h]; rfl
    · have h : (spDist fs 0 fs && spFieldsOk d fs) = false := by simpa using h
      rw [h]; rfl
end
/-! ### leat/leatref10.field -/
section
variable [Inhabited FuT]
noncomputable abbrev csvField : List (Nat × Hc) := [(153, ioHd iovList (FvListN spFuel)), (144, ioHd iotHere FtHere)]
noncomputable def hdvField : Hd := hdT csvField
noncomputable abbrev lovField_9 : Lo := ⟨⟨[.any, .any, .one (.ptr 2 0), .any, .any, .one (.hol (.int IntKind.i64)), .any, .any, .any, .any, .any, .any, .any, .any, .any, .any, .any, .any, .any, .any, .any, .any, .any, .any, .any, .any, .any, .any, .any, .any, .any, .any, .any, .any, .any, .any, .any, .any, .any, .any, .any, .any, .any, .any, .any, .any, .any, .any, .any, .any, .any, .any, .any, .any, .any, .any, .any, .any, .any, .any, .any, .any, .any, .any, .any, .any, .any, .any, .any, .any, .any, .any, .any], [none, none, some [.hol .str, .hol (.int IntKind.i64), .hol (.int IntKind.i64), .hol (.int IntKind.i64), .hol (.sl 159 tFld)]]⟩, [(.ret, ⟨[.any, .any, .any, .any, .one (.hol .bool), .any, .any, .any, .any, .any, .any, .any, .any, .any, .any, .any, .any, .any, .any, .any, .any, .any, .any, .any, .any, .any, .any, .any, .any, .any, .any, .any, .any, .any, .any, .any, .any, .any, .any, .any, .any, .any, .any, .any, .any, .any, .any, .any, .any, .any, .any, .any, .any, .any, .any, .any, .any, .any, .any, .any, .any, .any, .any, .any, .any, .any, .any, .any, .any, .any, .any, .any, .any], []⟩), (.exit 0, ⟨[.any, .any, .one (.ptr 2 0), .any, .any, .any, .any, .any, .any, .any, .any, .any, .any, .any, .any, .any, .any, .any, .any, .any, .any, .any, .any, .any, .any, .any, .any, .any, .any, .any, .any, .any, .any, .any, .any, .any, .any, .any, .any, .any, .any, .any, .any, .any, .any, .any, .any, .any, .any, .any, .any, .any, .any, .any, .any, .any, .any, .any, .any, .any, .any, .any, .any, .any, .any, .any, .any, .any, .any, .any, .any, .any, .any], [none, none, some [.hol .str, .hol (.int IntKind.i64), .hol (.int IntKind.i64), .hol (.int IntKind.i64), .hol (.sl 159 tFld)]]⟩)]⟩
-- FvField_9 : lovField_9.st.den → Tr (DenX lovField_9.xs) | ((h2, ()), ((h3, (h4, (h5, (h6, (h7, ()))))), ()))
noncomputable def FvField_9 (d : lovField_9.st.den) : Tr (DenX lovField_9.xs) :=
  .ite (((decide ((0 : Int) ≤ d.1.1) && decide (d.1.1 ≤ 4)) && decide (d.2.1.2.2.2.1 ≤ 3)) && decide (d.2.1.2.2.2.2.1.length ≤ 16))
    (.ite (spVers d.2.1.2.2.2.2.1 5 d.1.1 d.2.1.2.2.2.1) (.ret (.pan (.ret ((), ((), (d.2.1, ())))))) (.ret (.ret ((), ((false, ()), ()))))) .no
noncomputable def lpvField : Lp := lpT [(9, loHd lovField_9 FvField_9)]
noncomputable def stepvField_9 {R : Type} (h2 : Int) (h3 : List Int) (h4 : Int) (h5 : Int) (h6 : Int) (h7 : List (Fd)) (next : Int → List Int → Int → Int → Int → List (Fd) → Option R) (out : DenX lovField_9.xs → Option R) : Option R := bif decide (h2 ≤ h6) then bif decide (h7.length ≤ 4294967296) then bif (↑(spHere h7 h2).length : Int) == 0 then out (.ret ((), ((false, ()), ()))) else next (IntKind.i64.wrap (h2 + 1)) (h3) (h4) (h5) (h6) (h7) else none else out (.pan (.ret ((), ((), ((h3, (h4, (h5, (h6, (h7, ()))))), ())))))
noncomputable def itvField_9 (n : Nat) (h2 : Int) (h3 : List Int) (h4 : Int) (h5 : Int) (h6 : Int) (h7 : List (Fd)) : Option (DenX lovField_9.xs) := lpN tt hdvField dr lpvField 0 Go.Proofs.Tryz.f160 (topL Go.Proofs.Tryz.f160 0) n (lovField_9.st.mk' ((h2, ()), ((h3, (h4, (h5, (h6, (h7, ()))))), ()))) (decX lovField_9.xs)
theorem slvField_9 (n : Nat) (h2 : Int) (h3 : List Int) (h4 : Int) (h5 : Int) (h6 : Int) (h7 : List (Fd)) : itvField_9 (n + 1) h2 h3 h4 h5 h6 h7 = stepvField_9 h2 h3 h4 h5 h6 h7 (itvField_9 n) some := by kernel_rfl
theorem loopvField {ks : List Fd} (hl : ks.length ≤ 16) (nm : List Int) (a b c : Int) (hc : c ≤ 3) : ∀ (k : Nat) (v : Int), 0 ≤ v → v ≤ 4 → 4 < v + k →
    itvField_9 k v nm a b c ks = if spVers ks k v c = true then some (.pan (.ret ((), ((), ((nm, (a, (b, (c, (ks, ()))))), ()))))) else some (.ret ((), ((false, ()), ()))) := by
  intro k
  induction k with
  | zero => intro v h0 h1 h2; omega
  | succ k ih =>
    intro v h0 h1 h2
    rw [slvField_9]
    unfold stepvField_9
    rw [spVers]
    by_cases hv : v ≤ c
    · refine (bif_true (decide_eq_true hv) _ _).trans ?_
      refine (bif_true (decide_eq_true (by omega)) _ _).trans ?_
      rw [if_pos hv, wrap_i64 (n := v + 1) (by omega) (by omega)]
      by_cases h : (spHere ks v).length = 0
      · refine (bif_true (by simp [h]) _ _).trans ?_
        rw [if_pos h]; rfl
      · refine (bif_false (by simpa using h) _ _).trans ?_
        rw [if_neg h]
        exact ih (v + 1) (by omega) (by omega) (by omega)
    · refine (bif_false (decide_eq_false hv) _ _).trans ?_
      rw [if_neg hv]; rfl
noncomputable def bodyvField (a0 : Fd) (a1 : Int) : Option iovField.Res := bif (↑(List.length a0.1.fst) : Int) == 0 then some (Out.ret ((false, ()), ())) else bif decide (a0.1.snd.snd.fst < 0) then some (Out.ret ((false, ()), ())) else bif decide (3 < a0.1.snd.snd.snd.fst) then some (Out.ret ((false, ()), ())) else bif decide (a0.1.snd.snd.snd.fst < a0.1.snd.snd.fst) then some (Out.ret ((false, ()), ())) else bif decide (a0.1.snd.fst < 1) then some (Out.ret ((false, ()), ())) else bif decide (10 < a0.1.snd.fst) then some (Out.ret ((false, ()), ())) else bif decide (a0.1.snd.fst < 9) then some (Out.ret (((↑a0.2.length : Int) == 0, ()), ())) else bif decide (2 * spFws a0.2 + 2 ≤ spFuel) && (decide (0 ≤ IntKind.i64.wrap (a1 + 1)) && decide (IntKind.i64.wrap (a1 + 1) ≤ 1000)) then bif !spListOk (IntKind.i64.wrap (a1 + 1)) a0.2 then some (Out.ret ((false, ()), ())) else (FvField_9 ((a0.1.snd.snd.fst, ()), ((a0.1.fst, (a0.1.snd.fst, (a0.1.snd.snd.fst, (a0.1.snd.snd.snd.fst, (a0.2, ()))))), ()))).run fun y => match y with | .ret ((), ((x20, ()), ())) => (some (Out.ret ((x20, ()), ()))) | .pan (.ret ((), ((), (x21, x22, x23, x24, x25, ()), ()))) => (bif x22 == 10 then some (Out.ret ((true, ()), ())) else some (Out.ret (((↑x25.length : Int) == 1, ()), ()))) else none
theorem runvField (a0 : Fd) (a1 : Int) : Io.run tt hdvField dr lpvField iovField Go.Proofs.Tryz.f160 ((a0, a1, ()), ()) = bodyvField a0 a1 := by kernel_rfl
theorem okvFieldS (rvList : HcOk prog 153 (ioHd iovList (FvListN spFuel))) : HcOk prog 160 (ioHd iovField (FvFieldN (spFuel + 1))) := by
  refine fn_sound (n := 400) hm (cs := csvField) (.cons rvList (.cons oktHere .nil)) (lp := lpvField) (fn := Go.Proofs.Tryz.f160) (by kernel_rfl) (by kernel_rfl) (by kernel_rfl) iovField (.step (h0 := loHd lovField_9 FvField_9) (by kernel_rfl) (loop_sound (n := 400) hm (cs := csvField) (.cons rvList (.cons oktHere .nil)) (lp := lpvField) (fn := Go.Proofs.Tryz.f160) (.done (by kernel_rfl)) lovField_9 FvField_9 ?_) (.done (by kernel_rfl))) (FvFieldN (spFuel + 1)) ?_
  · rintro ⟨⟨(v : Int), ⟨⟩⟩, ⟨⟨(nm : List Int), (a : Int), (b : Int), (c : Int), (ks : List Fd), ⟨⟩⟩, ⟨⟩⟩⟩ y hw hy
    obtain ⟨hg, hy⟩ := Tr.guard hy
    simp only [Bool.and_eq_true, decide_eq_true_eq] at hg
    obtain ⟨⟨⟨h1, h4⟩, h2⟩, h3⟩ := hg
    have h1 : 0 ≤ v := h1
    have h4 : v ≤ 4 := h4
    have h2 : c ≤ 3 := h2
    have h3 : ks.length ≤ 16 := h3
    refine ⟨5, (loopvField h3 nm a b c h2 5 v h1 h4 (by omega)).trans ?_⟩
    rw [← hy]
    by_cases h : spVers ks 5 v c = true
    · rw [if_pos h]; exact (bif_true h _ _).symm
    · rw [if_neg h]; exact (bif_false (by simpa using h) _ _).symm
  · rintro ⟨⟨(f : Fd), (d : Int), ⟨⟩⟩, ⟨⟩⟩ out hw ho
    obtain ⟨hg, ho⟩ := Tr.guard ho
    simp only [Bool.and_eq_true, decide_eq_true_eq] at hg
    obtain ⟨hk, hd1, hd2⟩ := hg
    have hk : 2 * spFw f + 1 ≤ spFuel + 1 := hk
    have hd1 : 0 ≤ d := hd1
    have hd2 : d ≤ 999 := hd2
    cases ho
    refine (runvField f d).trans ?_
    unfold bodyvField
    show _ = some (Out.ret ((spFieldOk d f, ()), ()))
    obtain ⟨⟨(nm : List Int), (k' : Int), (lo : Int), (hi : Int), ⟨⟩⟩, (ks : List Fd)⟩ := f
    have hwf := spFw_eq (Tre.mk (nm, (k', (lo, (hi, ())))) ks)
    have hwf : spFw (Tre.mk (nm, (k', (lo, (hi, ())))) ks) = 1 + spFws ks := hwf
    have hk : 2 * (1 + spFws ks) + 1 ≤ spFuel + 1 := by rw [← hwf]; exact hk
    rw [spFieldOk, wrap_i64 (n := d + 1) (by omega) (by omega)]
    simp only
    by_cases h1 : List.length nm = 0
    · rw [if_pos h1]
      exact bif_true (by simp [h1]) _ _
    rw [if_neg h1]
    refine (bif_false (by simpa using h1) _ _).trans ?_
    by_cases h2 : lo < (0 : Int)
    · rw [if_pos h2]
      exact bif_true (decide_eq_true h2) _ _
    rw [if_neg h2]
    refine (bif_false (decide_eq_false h2) _ _).trans ?_
    by_cases h3 : (3 : Int) < hi
    · rw [if_pos h3]
      exact bif_true (decide_eq_true h3) _ _
    rw [if_neg h3]
    refine (bif_false (decide_eq_false h3) _ _).trans ?_
    by_cases h4 : (hi : Int) < lo
    · rw [if_pos h4]
      exact bif_true (decide_eq_true h4) _ _
    rw [if_neg h4]
    refine (bif_false (decide_eq_false h4) _ _).trans ?_
    by_cases h5 : k' < (1 : Int)
    · rw [if_pos h5]
      exact bif_true (decide_eq_true h5) _ _
    rw [if_neg h5]
    refine (bif_false (decide_eq_false h5) _ _).trans ?_
    by_cases h6 : (10 : Int) < k'
    · rw [if_pos h6]
      exact bif_true (decide_eq_true h6) _ _
    rw [if_neg h6]
    refine (bif_false (decide_eq_false h6) _ _).trans ?_
    by_cases h7 : k' < (9 : Int)
    · rw [if_pos h7]
      refine (bif_true (decide_eq_true h7) _ _).trans ?_
      by_cases h8 : ks.length = 0
      · rw [if_pos h8, h8]; rfl
      · rw [if_neg h8]
        exact congrArg (fun b : Bool => some (Out.ret ((b, ()), ()))) (by simpa using h8)
    rw [if_neg h7]
    refine (bif_false (decide_eq_false h7) _ _).trans ?_
    refine (bif_true (show (decide (2 * spFws ks + 2 ≤ spFuel) && (decide ((0 : Int) ≤ d + 1) && decide (d + 1 ≤ 1000))) = true by simp; omega) _ _).trans ?_
    by_cases h8 : spListOk (d + 1) ks = false
    · rw [if_pos h8]
      exact bif_true (by rw [h8]; rfl) _ _
    rw [if_neg h8]
    refine (bif_false (by simpa using h8) _ _).trans ?_
    have h8 : spListOk (d + 1) ks = true := by simpa using h8
    have hl : ks.length ≤ 16 := by
      rw [spListOk] at h8
      split at h8
      · cases h8
      · split at h8
        · cases h8
        · omega
    have c1 : (((decide ((0 : Int) ≤ lo) && decide (lo ≤ 4)) && decide (hi ≤ (3 : Int))) && decide (ks.length ≤ 16)) = true := by simp [hl]; omega
    refine (bif_true c1 _ _).trans ?_
    by_cases h9 : spVers ks 5 lo hi = true
    · refine (bif_true h9 _ _).trans ?_
      rw [if_neg (by rw [h9]; decide)]
      show (bif k' == 10 then _ else _) = _
      by_cases h10 : k' = 10
      · rw [if_pos h10]
        exact bif_true (by simpa using h10) _ _
      · rw [if_neg h10]
        refine (bif_false (by simpa using h10) _ _).trans ?_
        by_cases h11 : ks.length = 1
        · rw [if_pos h11]
          exact congrArg (fun b : Bool => some (Out.ret ((b, ()), ()))) (show ((ks.length : Int) == 1) = true by rw [h11]; rfl)
        · rw [if_neg h11]
          exact congrArg (fun b : Bool => some (Out.ret ((b, ()), ()))) (show ((ks.length : Int) == 1) = false by simp; omega)
    · have h9 : spVers ks 5 lo hi = false := by simpa using h9
      refine (bif_false h9 _ _).trans ?_
      rw [if_pos h9]
      rfl
end
theorem okvLBoth (n : Nat) : HcOk prog 153 (ioHd iovList (FvListN n)) ∧ HcOk prog 160 (ioHd iovField (FvFieldN n)) := by
  induction n with
  | zero => 
    refine ⟨HcOk.none (fn := Go.Proofs.Tryz.f153) (by kernel_rfl) (by kernel_rfl) (by kernel_rfl) _ _ fun d out h => ?_, HcOk.none (fn := Go.Proofs.Tryz.f160) (by kernel_rfl) (by kernel_rfl) (by kernel_rfl) _ _ fun d out h => ?_⟩
    · cases h
    · cases h
  | succ n ih =>
    have h1 := @okvListS ⟨⟨n⟩⟩ (by rw [FuT.val]; exact ih.2)
    have h2 := @okvFieldS ⟨⟨n⟩⟩ (by rw [FuT.val]; exact ih.1)
    rw [FuT.val] at h1 h2
    exact ⟨h1, h2⟩
theorem okvList : HcOk prog 153 (ioHd iovList FvList) := by
  refine HcOk.lim (fun n => (okvLBoth n).1) fun d => ⟨2 * spFws d.1.1 + 2, fun out h => ?_⟩
  obtain ⟨hg, h⟩ := Tr.guard h
  exact (bif_true (by rw [hg]; simp) _ _).trans h
/-! ### leat/leatref10.Check -/
noncomputable abbrev iovCheck : Io := ⟨[dFlds], [], [], [dI], none⟩
noncomputable def spChk (l : List Fd) : Int := if spListOk 1 l = true then 0 else 100
noncomputable def FvCheck (d : iovCheck.In) : Tr iovCheck.Res := .ret (.ret ((spChk d.1.1, ()), ()))
noncomputable abbrev csvCheck : List (Nat × Hc) := [(153, ioHd iovList FvList)]
noncomputable def hdvCheck : Hd := hdT csvCheck
noncomputable def lpvCheck : Lp := lpT []

noncomputable def bodyvCheck (a0 : List tFld.den) : Option iovCheck.Res := bif !spListOk 1 a0 then some (Out.ret ((100, ()), ())) else some (Out.ret ((0, ()), ()))
theorem runvCheck (a0 : List tFld.den) : Io.run tt hdvCheck dr lpvCheck iovCheck Go.Proofs.Tryz.f143 ((a0, ()), ()) = bodyvCheck a0 := by kernel_rfl
theorem okvCheck : HcOk prog 143 (ioHd iovCheck FvCheck) := by
  refine fn_sound (n := 400) hm (cs := csvCheck) (.cons okvList .nil) (lp := lpvCheck) (fn := Go.Proofs.Tryz.f143) (by kernel_rfl) (by kernel_rfl) (by kernel_rfl) iovCheck (.done (by kernel_rfl)) FvCheck ?_
  rintro ⟨⟨(fs : List Fd), ⟨⟩⟩, ⟨⟩⟩ out hw ho
  cases ho
  refine (runvCheck fs).trans ?_
  unfold bodyvCheck
  show _ = some (Out.ret ((spChk fs, ()), ()))
  unfold spChk
  by_cases h : spListOk 1 fs = true
  · rw [if_pos h]
    exact bif_false (by rw [h]; rfl) _ _
  · rw [if_neg h]
    exact bif_true (by simpa using h) _ _
/-! ### leat/leatref10.begin -/
noncomputable abbrev iovBegin : Io := ⟨[dFlds, dI], [], [], [dI], none⟩
noncomputable def spBeg (l : List Fd) (v : Int) : Int := if v < 0 ∨ 3 < v then 8 else spChk l
noncomputable def FvBegin (d : iovBegin.In) : Tr iovBegin.Res := .ret (.ret ((spBeg d.1.1 d.1.2.1, ()), ()))
noncomputable abbrev csvBegin : List (Nat × Hc) := [(143, ioHd iovCheck FvCheck)]
noncomputable def hdvBegin : Hd := hdT csvBegin
noncomputable def lpvBegin : Lp := lpT []

noncomputable def bodyvBegin (a0 : List tFld.den) (a1 : Int) : Option iovBegin.Res := bif decide (a1 < 0) then some (Out.ret ((8, ()), ())) else bif decide (3 < a1) then some (Out.ret ((8, ()), ())) else some (Out.ret ((spChk a0, ()), ()))
theorem runvBegin (a0 : List tFld.den) (a1 : Int) : Io.run tt hdvBegin dr lpvBegin iovBegin Go.Proofs.Tryz.f129 ((a0, a1, ()), ()) = bodyvBegin a0 a1 := by kernel_rfl
theorem okvBegin : HcOk prog 129 (ioHd iovBegin FvBegin) := by
  refine fn_sound (n := 400) hm (cs := csvBegin) (.cons okvCheck .nil) (lp := lpvBegin) (fn := Go.Proofs.Tryz.f129) (by kernel_rfl) (by kernel_rfl) (by kernel_rfl) iovBegin (.done (by kernel_rfl)) FvBegin ?_
  rintro ⟨⟨(fs : List Fd), (v : Int), ⟨⟩⟩, ⟨⟩⟩ out hw ho
  cases ho
  refine (runvBegin fs v).trans ?_
  unfold bodyvBegin
  show _ = some (Out.ret ((spBeg fs v, ()), ()))
  unfold spBeg
  by_cases h : v < 0
  · rw [if_pos (.inl h)]
    exact bif_true (decide_eq_true h) _ _
  · refine (bif_false (decide_eq_false h) _ _).trans ?_
    by_cases h2 : 3 < v
    · rw [if_pos (.inr h2)]
      exact bif_true (decide_eq_true h2) _ _
    · rw [if_neg (by omega)]
      exact bif_false (decide_eq_false h2) _ _
theorem spArrs_cons (k : Fd) (ks : List Fd) : spArrs (k :: ks) = (spArr k && spArrs ks) := by unfold spArrs spArr; rfl
theorem spField_arr : ∀ (N : Nat), (∀ (d : Int) (f : Fd), spFw f ≤ N → spFieldOk d f = true → spArr f = true) ∧ (∀ (d : Int) (ks : List Fd), spFws ks < N → spListOk d ks = true → spArrs ks = true ∧ 1 ≤ ks.length ∧ ks.length ≤ 16) := by
  intro N
  induction N with
  | zero => exact ⟨fun d f h => by have := spFw_eq f; omega, fun d ks h => by omega⟩
  | succ N ih =>
    have hl : ∀ (d : Int) (ks : List Fd), spFws ks < N + 1 → spListOk d ks = true → spArrs ks = true ∧ 1 ≤ ks.length ∧ ks.length ≤ 16 := by
      intro d ks hN h
      rw [spListOk] at h
      split at h
      · cases h
      split at h
      · cases h
      split at h
      · cases h
      refine ⟨?_, by omega, by omega⟩
      simp only [Bool.and_eq_true] at h
      have key : ∀ l : List Fd, (∀ k ∈ l, spFw k ≤ N) → spFieldsOk d l = true → spArrs l = true := by
        intro l
        induction l with
        | nil => intro _ _; unfold spArrs; rfl
        | cons k l ihl =>
          intro h1 h2
          rw [spFieldsOk] at h2
          simp only [Bool.and_eq_true] at h2
          rw [spArrs_cons, ih.1 d k (h1 k (by simp)) h2.1, ihl (fun k hk => h1 k (List.mem_cons_of_mem _ hk)) h2.2]; rfl
      exact key ks (fun k hk => by have := spFw_mem hk; omega) h.2
    refine ⟨?_, hl⟩
    rintro d ⟨⟨(nm : List Int), (k' : Int), (lo : Int), (hi : Int), ⟨⟩⟩, (ks : List Fd)⟩ hN h
    rw [spArr_eq]
    have hwf := spFw_eq (Tre.mk (nm, (k', (lo, (hi, ())))) ks)
    have hwf : spFw (Tre.mk (nm, (k', (lo, (hi, ())))) ks) = 1 + spFws ks := hwf
    have hN : 1 + spFws ks ≤ N + 1 := by rw [← hwf]; exact hN
    show ((((decide (k' ≠ 9) || decide (ks.length ≠ 0)) && decide (ks.length ≤ 16)) && spArrs ks)) = true
    rw [spFieldOk] at h
    by_cases c0 : List.length nm = 0
    · rw [if_pos c0] at h; cases h
    rw [if_neg c0] at h
    by_cases c1 : lo < 0
    · rw [if_pos c1] at h; cases h
    rw [if_neg c1] at h
    by_cases c2 : 3 < hi
    · rw [if_pos c2] at h; cases h
    rw [if_neg c2] at h
    by_cases c3 : hi < lo
    · rw [if_pos c3] at h; cases h
    rw [if_neg c3] at h
    by_cases c4 : k' < 1
    · rw [if_pos c4] at h; cases h
    rw [if_neg c4] at h
    by_cases c5 : 10 < k'
    · rw [if_pos c5] at h; cases h
    rw [if_neg c5] at h
    by_cases hk9 : k' < 9
    · rw [if_pos hk9] at h
      by_cases h0 : ks.length = 0
      · have : ks = [] := List.eq_nil_of_length_eq_zero h0
        subst this
        have e : decide (k' ≠ 9) = true := decide_eq_true (by omega)
        have : spArrs [] = true := by unfold spArrs; rfl
        rw [e, this]; rfl
      · rw [if_neg h0] at h; cases h
    rw [if_neg hk9] at h
    by_cases hlk : spListOk (d + 1) ks = false
    · rw [if_pos hlk] at h; cases h
    obtain ⟨h1, h2, h3⟩ := hl (d + 1) ks (by omega) (by simpa using hlk)
    have e : decide (ks.length ≠ 0) = true := decide_eq_true (by omega)
    have e2 : decide (ks.length ≤ 16) = true := decide_eq_true h3
    rw [h1, e, e2, Bool.or_true]; rfl
theorem spBeg_arr {l : List Fd} {v : Int} (h : spBeg l v = 0) : spArrs l = true ∧ l.length ≤ 16 := by
  unfold spBeg at h
  split at h
  · omega
  · unfold spChk at h
    split at h
    · rename_i hl
      have := (spField_arr (spFws l + 1)).2 1 l (by omega) hl
      exact ⟨this.1, this.2.2⟩
    · omega
/-! ### leat/leatref10.Encode -/
noncomputable abbrev iovEncode : Io := ⟨[dFlds, dI, dNode], [], [], [dL, dI], none⟩
noncomputable def spEnc (l : List Fd) (v : Int) (n : Nd) : List Int × Int := if spBeg l v ≠ 0 then ([], spBeg l v) else if spShN 10 n = false then ([], 101) else if (spVParts l v n).2 ≠ 0 then ([], (spVParts l v n).2) else if 130048 < (spVParts l v n).1.length then ([], 4) else ((spVParts l v n).1, 0)
noncomputable def FvEncode (d : iovEncode.In) : Tr iovEncode.Res := .ite (decide (8 * spWt d.1.2.2.1 ≤ 4294967296)) (.ret (.ret (((spEnc d.1.1 d.1.2.1 d.1.2.2.1).1, ((spEnc d.1.1 d.1.2.1 d.1.2.2.1).2, ())), ()))) .no
noncomputable abbrev csvEncode : List (Nat × Hc) := [(129, ioHd iovBegin FvBegin), (130, ioHd iotShape FtShape), (131, ioHd iovParts FvParts)]
noncomputable def hdvEncode : Hd := hdT csvEncode
noncomputable def lpvEncode : Lp := lpT []

noncomputable def bodyvEncode (a0 : List tFld.den) (a1 : Int) (a2 : Nd) : Option iovEncode.Res := bif spBeg a0 a1 != 0 then some (Out.ret (([], spBeg a0 a1, ()), ())) else bif !spShN 10 (Tre.mk a2.1 a2.2) then some (Out.ret (([], 101, ()), ())) else bif spArrs a0 && (decide (8 * spWt (Tre.mk a2.1 a2.2) ≤ 4294967296) && decide (a0.length ≤ 4294967296)) then bif (spVParts a0 a1 (Tre.mk a2.1 a2.2)).snd != 0 then some (Out.ret (([], (spVParts a0 a1 (Tre.mk a2.1 a2.2)).snd, ()), ())) else bif decide (130048 < (↑(spVParts a0 a1 (Tre.mk a2.1 a2.2)).fst.length : Int)) then some (Out.ret (([], 4, ()), ())) else some (Out.ret (((spVParts a0 a1 (Tre.mk a2.1 a2.2)).fst, 0, ()), ())) else none
theorem runvEncode (a0 : List tFld.den) (a1 : Int) (a2 : Nd) : Io.run tt hdvEncode dr lpvEncode iovEncode Go.Proofs.Tryz.f99 ((a0, a1, a2, ()), ()) = bodyvEncode a0 a1 a2 := by kernel_rfl
theorem okvEncode : HcOk prog 99 (ioHd iovEncode FvEncode) := by
  refine fn_sound (n := 400) hm (cs := csvEncode) (.cons okvBegin (.cons oktShape (.cons okvParts .nil))) (lp := lpvEncode) (fn := Go.Proofs.Tryz.f99) (by kernel_rfl) (by kernel_rfl) (by kernel_rfl) iovEncode (.done (by kernel_rfl)) FvEncode ?_
  rintro ⟨⟨(fs : List Fd), (v : Int), (n : Nd), ⟨⟩⟩, ⟨⟩⟩ out hw ho
  obtain ⟨hg, ho⟩ := Tr.guard ho
  have hb : 8 * spWt n ≤ 4294967296 := of_decide_eq_true hg
  cases ho
  refine (runvEncode fs v n).trans ?_
  unfold bodyvEncode
  show _ = some (Out.ret (((spEnc fs v n).1, ((spEnc fs v n).2, ())), ()))
  unfold spEnc
  by_cases h1 : spBeg fs v = 0
  · rw [if_neg (by simpa using h1)]
    refine (bif_false (by rw [h1]; rfl) _ _).trans ?_
    obtain ⟨ha, hl⟩ := spBeg_arr h1
    obtain ⟨nl, nk⟩ := n
    by_cases h2 : spShN 10 (Tre.mk nl nk) = false
    · rw [if_pos h2]
      exact bif_true (show (!spShN 10 (Tre.mk nl nk)) = true by rw [h2]; rfl) _ _
    rw [if_neg h2]
    refine (bif_false (show (!spShN 10 (Tre.mk nl nk)) = false by simpa using h2) _ _).trans ?_
    refine (bif_true (show (spArrs fs && (decide (8 * spWt (Tre.mk nl nk) ≤ 4294967296) && decide (fs.length ≤ 4294967296))) = true by rw [ha]; simp; omega) _ _).trans ?_
    by_cases h3 : (spVParts fs v (Tre.mk nl nk)).2 = 0
    · rw [if_neg (by simpa using h3)]
      refine (bif_false (show ((spVParts fs v (Tre.mk nl nk)).2 != 0) = false by rw [h3]; rfl) _ _).trans ?_
      by_cases h4 : 130048 < (spVParts fs v (Tre.mk nl nk)).1.length
      · rw [if_pos h4]
        exact bif_true (decide_eq_true (show (130048 : Int) < ((spVParts fs v (Tre.mk nl nk)).1.length : Int) by omega)) _ _
      · rw [if_neg h4]
        exact bif_false (decide_eq_false (show ¬ (130048 : Int) < ((spVParts fs v (Tre.mk nl nk)).1.length : Int) by omega)) _ _
    · rw [if_pos h3]
      exact bif_true (by simpa using h3) _ _
  · rw [if_pos h1]
    exact bif_true (by simpa using h1) _ _
end
end Go.Proofs.YtmlgepgcofmpeaaGreat.Sym
