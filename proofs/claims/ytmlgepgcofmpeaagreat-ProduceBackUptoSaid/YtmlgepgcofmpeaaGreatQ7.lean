/- produce.EncodeRep: what it writes. -/
import Derived.Test.YtmlgepgcofmpeaaGreatQ6

namespace Go.Proofs.YtmlgepgcofmpeaaGreat.Sym
open Go
set_option linter.unusedSimpArgs false
set_option linter.unusedVariables false
noncomputable section
abbrev tDone : Ty := .prod (.int .i32) (.prod (.int .i16) (.prod (.int .i64) (.prod (.int .i64) (.prod (.int .i64) .unit))))
abbrev tGone : Ty := .prod .str (.prod (.sl 105 tDone) .unit)
abbrev tRep : Ty := .prod (.sl 103 tGone) (.prod (.int .i32) .unit)
def spHasE (v lo hi x : Int) (n : Nat) (s : EnS) : EnS := if lo ≤ v ∧ v ≤ hi then spPutE x n s else s
def spDoneRowE (v : Int) (p : tDone.den) (s : EnS) : EnS := spHasE v 3 3 p.2.2.2.2.1 8 (spHasE v 2 3 p.2.2.2.1 8 (spPutE p.2.2.1 8 (spPutE p.2.1 2 (spPutE p.1 4 s))))
abbrev iorDone : Io := ⟨[.dat tDone true false, .ptr 0 0], oEnc1, [], [], none⟩
def FrDone (d : iorDone.In) : Tr iorDone.Res := .ite (encOk d.2.2) (.ret (.ret ((), encOut1 d.2.2.1.2.1 (spDoneRowE d.2.2.1.2.1 d.1.1 (encSt d.2.2))))) .no
abbrev csrDone : List (Nat × Hc) := [(41, ioHd ioeI32 FeI32), (40, ioHd ioeI16 FeI16), (58, ioHd ioeI64 FeI64), (38, ioHd ioeHas FeHas)]
def hdrDone : Hd := hdT csrDone
def lprDone : Lp := lpT []
def bodyrDone (a0 : Int) (a1 : Int) (a2 : Int) (a3 : Int) (a4 : Int) (a5 : Int) (a6 : Int) (a7 : Bool) (a8 : List Int) (a9 : Int) : Option iorDone.Res := bif decide (a9 = 130048) && decide (a8.length ≤ 130048) then bif decide (130048 = 130048) && decide ((spPutE a0 4 (a6, a7, a8)).snd.snd.length ≤ 130048) then bif decide (130048 = 130048) && decide ((spPutE a1 2 (spPutE a0 4 (a6, a7, a8))).snd.snd.length ≤ 130048) then bif decide (130048 = 130048) && decide ((spPutE a2 8 (spPutE a1 2 (spPutE a0 4 (a6, a7, a8)))).snd.snd.length ≤ 130048) then bif decide (2 ≤ a5) && decide (a5 ≤ 3) then bif decide (130048 = 130048) && decide ((spPutE a2 8 (spPutE a1 2 (spPutE a0 4 (a6, a7, a8)))).snd.snd.length ≤ 130048) then bif decide (130048 = 130048) && decide ((spPutE a3 8 (spPutE a2 8 (spPutE a1 2 (spPutE a0 4 (a6, a7, a8))))).snd.snd.length ≤ 130048) then bif decide (3 ≤ a5) && decide (a5 ≤ 3) then bif decide (130048 = 130048) && decide ((spPutE a3 8 (spPutE a2 8 (spPutE a1 2 (spPutE a0 4 (a6, a7, a8))))).snd.snd.length ≤ 130048) then some (Out.ret ((), ((), ()), ((), a5, (spPutE a4 8 (spPutE a3 8 (spPutE a2 8 (spPutE a1 2 (spPutE a0 4 (a6, a7, a8)))))).fst, (spPutE a4 8 (spPutE a3 8 (spPutE a2 8 (spPutE a1 2 (spPutE a0 4 (a6, a7, a8)))))).snd.fst, ()), ((spPutE a4 8 (spPutE a3 8 (spPutE a2 8 (spPutE a1 2 (spPutE a0 4 (a6, a7, a8)))))).snd.snd, 130048, ()), ())) else none else some (Out.ret ((), ((), ()), ((), a5, (spPutE a3 8 (spPutE a2 8 (spPutE a1 2 (spPutE a0 4 (a6, a7, a8))))).fst, (spPutE a3 8 (spPutE a2 8 (spPutE a1 2 (spPutE a0 4 (a6, a7, a8))))).snd.fst, ()), ((spPutE a3 8 (spPutE a2 8 (spPutE a1 2 (spPutE a0 4 (a6, a7, a8))))).snd.snd, 130048, ()), ())) else none else none else bif decide (130048 = 130048) && decide ((spPutE a2 8 (spPutE a1 2 (spPutE a0 4 (a6, a7, a8)))).snd.snd.length ≤ 130048) then bif decide (3 ≤ a5) && decide (a5 ≤ 3) then bif decide (130048 = 130048) && decide ((spPutE a2 8 (spPutE a1 2 (spPutE a0 4 (a6, a7, a8)))).snd.snd.length ≤ 130048) then some (Out.ret ((), ((), ()), ((), a5, (spPutE a4 8 (spPutE a2 8 (spPutE a1 2 (spPutE a0 4 (a6, a7, a8))))).fst, (spPutE a4 8 (spPutE a2 8 (spPutE a1 2 (spPutE a0 4 (a6, a7, a8))))).snd.fst, ()), ((spPutE a4 8 (spPutE a2 8 (spPutE a1 2 (spPutE a0 4 (a6, a7, a8))))).snd.snd, 130048, ()), ())) else none else some (Out.ret ((), ((), ()), ((), a5, (spPutE a2 8 (spPutE a1 2 (spPutE a0 4 (a6, a7, a8)))).fst, (spPutE a2 8 (spPutE a1 2 (spPutE a0 4 (a6, a7, a8)))).snd.fst, ()), ((spPutE a2 8 (spPutE a1 2 (spPutE a0 4 (a6, a7, a8)))).snd.snd, 130048, ()), ())) else none else none else none else none else none
theorem runrDone (a0 : Int) (a1 : Int) (a2 : Int) (a3 : Int) (a4 : Int) (a5 : Int) (a6 : Int) (a7 : Bool) (a8 : List Int) (a9 : Int) : Io.run tt hdrDone dr lprDone iorDone Go.Proofs.Tryz.f57 (((a0, a1, a2, a3, a4, ()), (), ()), ((), ()), ((), a5, a6, a7, ()), (a8, a9, ()), ()) = bodyrDone a0 a1 a2 a3 a4 a5 a6 a7 a8 a9 := by kernel_rfl
theorem okrDone : HcOk prog 57 (ioHd iorDone FrDone) := by
  refine fn_sound (n := 400) hm (cs := csrDone) (.cons okeI32 (.cons okeI16 (.cons okeI64 (.cons okeHas .nil)))) (lp := lprDone) (fn := Go.Proofs.Tryz.f57) (by kernel_rfl) (by kernel_rfl) (by kernel_rfl) iorDone (.done (by kernel_rfl)) FrDone ?_
  rintro ⟨⟨⟨(i : Int), (c : Int), (o : Int), (t : Int), (st : Int), ⟨⟩⟩, ⟨⟩, ⟨⟩⟩, ⟨⟨⟩, ⟨⟩⟩, ⟨⟨⟩, (v : Int), (e : Int), (f : Bool), ⟨⟩⟩, ⟨(b : List Int), (m : Int), ⟨⟩⟩, ⟨⟩⟩ out hw ho
  obtain ⟨hg, ho⟩ := Tr.guard ho
  obtain ⟨rfl, hb⟩ := encOk_iff (v := v) (e := e) (f := f) hg
  cases ho
  refine (runrDone i c o t st v e f b 130048).trans ?_
  unfold bodyrDone
  have hg : ∀ s : EnS, s.2.2.length ≤ 130048 → (decide ((130048 : Int) = 130048) && decide (s.2.2.length ≤ 130048)) = true := fun s h => by simpa using h
  have l1 := spPutE_le (s := (e, f, b)) i 4 hb
  have l2 := spPutE_le c 2 l1
  have l3 := spPutE_le o 8 l2
  have l4 := spPutE_le t 8 l3
  show _ = some (Out.ret ((), encOut1 v (spDoneRowE v (i, (c, (o, (t, (st, ()))))) (e, f, b))))
  unfold spDoneRowE spHasE
  refine (bif_true (hg (e, f, b) hb) _ _).trans ?_
  refine (bif_true (hg _ l1) _ _).trans ?_
  refine (bif_true (hg _ l2) _ _).trans ?_
  refine (bif_true (hg _ l3) _ _).trans ?_
  by_cases h2 : 2 ≤ v ∧ v ≤ 3
  · refine (bif_true (by simpa using h2) _ _).trans ?_
    refine (bif_true (hg _ l3) _ _).trans ?_
    refine (bif_true (hg _ l4) _ _).trans ?_
    rw [if_pos h2]
    by_cases h3 : 3 ≤ v ∧ v ≤ 3
    · refine (bif_true (by simpa using h3) _ _).trans ?_
      refine (bif_true (hg _ l4) _ _).trans ?_
      rw [if_pos h3]
    · refine (bif_false (by simp; omega) _ _).trans ?_
      rw [if_neg h3]
  · refine (bif_false (by simp; omega) _ _).trans ?_
    refine (bif_true (hg _ l3) _ _).trans ?_
    rw [if_neg h2]
    by_cases h3 : 3 ≤ v ∧ v ≤ 3
    · omega
    · refine (bif_false (by simp; omega) _ _).trans ?_
      rw [if_neg h3]
theorem spHasE_le {s : EnS} (v lo hi x : Int) (n : Nat) (h : s.2.2.length ≤ 130048) : (spHasE v lo hi x n s).2.2.length ≤ 130048 := by
  unfold spHasE
  split
  · exact spPutE_le _ _ h
  · exact h
theorem spDoneRowE_le {s : EnS} (v : Int) (p : tDone.den) (h : s.2.2.length ≤ 130048) : (spDoneRowE v p s).2.2.length ≤ 130048 :=
  spHasE_le _ _ _ _ _ (spHasE_le _ _ _ _ _ (spPutE_le _ _ (spPutE_le _ _ (spPutE_le _ _ h))))
def spDonesE (v : Int) (xs : List tDone.den) (s : EnS) : EnS := spItems (spDoneRowE v) xs s
abbrev iorDones : Io := ⟨[.ptr 0 0, .dat (.sl 105 tDone) false false, .fnc 57 false [2]], oEncC, [], [], none⟩
def FrDones (d : iorDones.In) : Tr iorDones.Res := .ite (encOkC d.2) (.ret (.ret ((), encOutC d.2.1.2.1 (spDonesE d.2.1.2.1 d.1.2.1 (encStC d.2))))) .no
abbrev csrDones : List (Nat × Hc) := [(100, ioHd ioeFail FeFail), (41, ioHd ioeI32 FeI32), (57, ioHd iorDone FrDone)]
def hdrDones : Hd := hdT csrDones
abbrev lorDones_5 : Lo := ⟨⟨[.any, .any, .one (.fnp 57 false [2]), .any, .any, .any, .any, .any, .any, .any, .any, .any, .any, .any, .any, .any, .any, .any, .one (.hol (.sl 105 ((Ty.int IntKind.i32).prod ((Ty.int IntKind.i16).prod ((Ty.int IntKind.i64).prod ((Ty.int IntKind.i64).prod ((Ty.int IntKind.i64).prod Ty.unit))))))), .one (.hol (.int IntKind.i64)), .one (.hol (.int IntKind.i64)), .any, .any, .any, .any, .any, .any, .any], [some [.ptr 1 0, .hol (.int IntKind.i64), .hol (.int IntKind.i64), .hol .bool], some [.onl 5 (Ty.int IntKind.u8) 514, .hol (.int IntKind.i64)], some [.ptr 0 0]]⟩, [(.exit 0, ⟨[.any, .any, .any, .any, .any, .any, .any, .any, .any, .any, .any, .any, .any, .any, .any, .any, .any, .any, .any, .any, .any, .any, .any, .any, .any, .any, .any, .any], [some [.ptr 1 0, .hol (.int IntKind.i64), .hol (.int IntKind.i64), .hol .bool], some [.onl 5 (Ty.int IntKind.u8) 514, .hol (.int IntKind.i64)], some [.ptr 0 0]]⟩)]⟩
-- FrDones_5 : lorDones_5.st.den → Tr (DenX lorDones_5.xs) | ((h6, (h7, (h8, ()))), ((h9, (h10, (h11, ()))), ((h12, (h13, ())), ((), ()))))
def FrDones_5 (d : lorDones_5.st.den) : Tr (DenX lorDones_5.xs) :=
  .ite (decide (d.1.2.2.1 = 0) && (decide (d.1.2.1 = (d.1.1.length : Int)) && (decide (d.2.2.1.2.1 = 130048) && decide (d.2.2.1.1.length ≤ 130048)))) (.ret (.ret ((), ((), encOutB d.2.1.1 (d.1.1.foldl (fun s x => spDoneRowE d.2.1.1 x s) (d.2.1.2.1, (d.2.1.2.2.1, d.2.2.1.1))))))) .no
def lprDones : Lp := lpT [(5, loHd lorDones_5 FrDones_5)]
def steprDones_5 {R : Type} (h6 : List tDone.den) (h7 : Int) (h8 : Int) (h9 : Int) (h10 : Int) (h11 : Bool) (h12 : List Int) (h13 : Int) (next : List tDone.den → Int → Int → Int → Int → Bool → List Int → Int → Option R) (out : DenX lorDones_5.xs → Option R) : Option R := bif decide (h8 < h7) then bif decide (0 ≤ h8) && decide (h8 < (↑h6.length : Int)) then bif decide (h13 = 130048) && decide (h12.length ≤ 130048) then next (h6) (h7) (IntKind.i64.wrap (h8 + 1)) (h9) ((spDoneRowE h9 ((h6.getD h8.toNat (0, 0, 0, 0, 0, ())).fst, (h6.getD h8.toNat (0, 0, 0, 0, 0, ())).snd.fst, (h6.getD h8.toNat (0, 0, 0, 0, 0, ())).snd.snd.fst, (h6.getD h8.toNat (0, 0, 0, 0, 0, ())).snd.snd.snd.fst, (h6.getD h8.toNat (0, 0, 0, 0, 0, ())).snd.snd.snd.snd.fst, ()) (h10, h11, h12)).fst) ((spDoneRowE h9 ((h6.getD h8.toNat (0, 0, 0, 0, 0, ())).fst, (h6.getD h8.toNat (0, 0, 0, 0, 0, ())).snd.fst, (h6.getD h8.toNat (0, 0, 0, 0, 0, ())).snd.snd.fst, (h6.getD h8.toNat (0, 0, 0, 0, 0, ())).snd.snd.snd.fst, (h6.getD h8.toNat (0, 0, 0, 0, 0, ())).snd.snd.snd.snd.fst, ()) (h10, h11, h12)).snd.fst) ((spDoneRowE h9 ((h6.getD h8.toNat (0, 0, 0, 0, 0, ())).fst, (h6.getD h8.toNat (0, 0, 0, 0, 0, ())).snd.fst, (h6.getD h8.toNat (0, 0, 0, 0, 0, ())).snd.snd.fst, (h6.getD h8.toNat (0, 0, 0, 0, 0, ())).snd.snd.snd.fst, (h6.getD h8.toNat (0, 0, 0, 0, 0, ())).snd.snd.snd.snd.fst, ()) (h10, h11, h12)).snd.snd) (130048) else none else none else out (.ret ((), ((), ((h9, (h10, (h11, ()))), ((h12, (h13, ())), ((), ()))))))
def itrDones_5 (n : Nat) (h6 : List tDone.den) (h7 : Int) (h8 : Int) (h9 : Int) (h10 : Int) (h11 : Bool) (h12 : List Int) (h13 : Int) : Option (DenX lorDones_5.xs) := lpN tt hdrDones dr lprDones 3 Go.Proofs.Tryz.f56 (topL Go.Proofs.Tryz.f56 0) n (lorDones_5.st.mk' ((h6, (h7, (h8, ()))), ((h9, (h10, (h11, ()))), ((h12, (h13, ())), ((), ()))))) (decX lorDones_5.xs)
theorem slrDones_5 (n : Nat) (h6 : List tDone.den) (h7 : Int) (h8 : Int) (h9 : Int) (h10 : Int) (h11 : Bool) (h12 : List Int) (h13 : Int) : itrDones_5 (n + 1) h6 h7 h8 h9 h10 h11 h12 h13 = steprDones_5 h6 h7 h8 h9 h10 h11 h12 h13 (itrDones_5 n) some := by kernel_rfl
theorem looprDones {xs : List tDone.den} (v : Int) (hl : xs.length ≤ maxLen) : ∀ (k i : Nat) (s : EnS), xs.length < i + k → i ≤ xs.length → s.2.2.length ≤ 130048 →
    itrDones_5 k xs (xs.length : Int) i v s.1 s.2.1 s.2.2 130048 = some (.ret ((), ((), encOutB v ((xs.drop i).foldl (fun s x => spDoneRowE v x s) s)))) := by
  intro k
  induction k with
  | zero => intro i s h; omega
  | succ k ih =>
    intro i s h1 h2 h3
    rw [slrDones_5]
    unfold steprDones_5
    by_cases hi : i < xs.length
    · refine (bif_true (decide_eq_true (show (i : Int) < (xs.length : Int) by omega)) _ _).trans ?_
      refine (bif_true (by simpa using hi) _ _).trans ?_
      simp only [Int.toNat_natCast, getD_lt hi, wrap_succ hi hl]
      have g : (decide ((130048 : Int) = 130048) && decide (s.2.2.length ≤ 130048)) = true := by
        simpa using h3
      refine (bif_true g _ _).trans ?_
      rw [List.drop_eq_getElem_cons hi]
      exact ih (i + 1) (spDoneRowE v xs[i] s) (by omega) (by omega) (spDoneRowE_le v _ h3)
    · refine (bif_false (by simp; omega) _ _).trans ?_
      rw [List.drop_of_length_le (by omega)]
      rfl
def bodyrDones (a0 : List tDone.den) (a1 : Int) (a2 : Int) (a3 : Bool) (a4 : List Int) (a5 : Int) : Option iorDones.Res := bif decide (16 < (↑a0.length : Int)) then bif decide (a5 = 130048) && decide (a4.length ≤ 130048) then some (Out.ret ((), ((), a1, (spFail 9 (a2, a3, a4)).fst, (spFail 9 (a2, a3, a4)).snd.fst, ()), ((spFail 9 (a2, a3, a4)).snd.snd, 130048, ()), ((), ()), ())) else none else bif decide (a5 = 130048) && decide (a4.length ≤ 130048) then (FrDones_5 ((a0, ((↑a0.length : Int), (0, ()))), ((a1, ((spPutE (IntKind.i32.wrap (↑a0.length : Int)) 4 (a2, a3, a4)).fst, ((spPutE (IntKind.i32.wrap (↑a0.length : Int)) 4 (a2, a3, a4)).snd.fst, ()))), (((spPutE (IntKind.i32.wrap (↑a0.length : Int)) 4 (a2, a3, a4)).snd.snd, (130048, ())), ((), ()))))).run fun y => match y with | .ret ((), ((), (x27, x28, x29, ()), (x30, x31, ()), (), ())) => (some (Out.ret ((), ((), x27, x28, x29, ()), (x30, x31, ()), ((), ()), ()))) else none
theorem runrDones (a0 : List tDone.den) (a1 : Int) (a2 : Int) (a3 : Bool) (a4 : List Int) (a5 : Int) : Io.run tt hdrDones dr lprDones iorDones Go.Proofs.Tryz.f56 (((), a0, (), ()), ((), a1, a2, a3, ()), (a4, a5, ()), ((), ()), ()) = bodyrDones a0 a1 a2 a3 a4 a5 := by kernel_rfl
theorem okrDones : HcOk prog 56 (ioHd iorDones FrDones) := by
  refine fn_sound (n := 400) hm (cs := csrDones) (.cons okeFail (.cons okeI32 (.cons okrDone .nil))) (lp := lprDones) (fn := Go.Proofs.Tryz.f56) (by kernel_rfl) (by kernel_rfl) (by kernel_rfl) iorDones (.step (h0 := loHd lorDones_5 FrDones_5) (by kernel_rfl) (loop_sound (n := 400) hm (cs := csrDones) (.cons okeFail (.cons okeI32 (.cons okrDone .nil))) (lp := lprDones) (fn := Go.Proofs.Tryz.f56) (.done (by kernel_rfl)) lorDones_5 FrDones_5 ?_) (.done (by kernel_rfl))) FrDones ?_
  · rintro ⟨⟨(xs : List tDone.den), (n : Int), (i : Int), ⟨⟩⟩, ⟨⟨(v : Int), (e : Int), (f : Bool), ⟨⟩⟩, ⟨(b : List Int), (m : Int), ⟨⟩⟩, ⟨⟨⟩, ⟨⟩⟩⟩⟩ y hw hy
    obtain ⟨hg, hy⟩ := Tr.guard hy
    simp only [Bool.and_eq_true, decide_eq_true_eq] at hg
    obtain ⟨rfl, rfl, rfl, h4⟩ := hg
    have h4 : b.length ≤ 130048 := h4
    have hl : xs.length ≤ maxLen := hw.1.1.1
    refine ⟨xs.length + 1, (looprDones v hl (xs.length + 1) 0 (e, (f, b)) (by omega) (by omega) h4).trans ?_⟩
    rw [← hy]; rfl
  · rintro ⟨⟨⟨⟩, (xs : List tDone.den), ⟨⟩, ⟨⟩⟩, ⟨⟨⟩, (v : Int), (e : Int), (f : Bool), ⟨⟩⟩, ⟨(b : List Int), (m : Int), ⟨⟩⟩, ⟨⟨⟩, ⟨⟩⟩, ⟨⟩⟩ out hw ho
    obtain ⟨hg, ho⟩ := Tr.guard ho
    obtain ⟨rfl, hb⟩ := encOk_iff (v := v) (e := e) (f := f) hg
    cases ho
    refine (runrDones xs v e f b 130048).trans ?_
    unfold bodyrDones
    have g : (decide ((130048 : Int) = 130048) && decide (b.length ≤ 130048)) = true := by simpa using hb
    show _ = some (Out.ret ((), encOutC v (spItems (spDoneRowE v) xs (e, f, b))))
    unfold spItems
    by_cases h : 16 < (xs.length : Int)
    · rw [if_pos h]
      refine (bif_true (decide_eq_true h) _ _).trans ?_
      exact bif_true g _ _
    · rw [if_neg h]
      refine (bif_false (decide_eq_false h) _ _).trans ?_
      refine (bif_true g _ _).trans ?_
      have hw32 : IntKind.i32.wrap (xs.length : Int) = xs.length := wrap_id (by simp [inR, IntKind.min, IntKind.max, IntKind.signed, IntKind.bits]; omega)
      rw [hw32]
      have c1 : (decide ((0 : Int) = 0) && (decide ((xs.length : Int) = (xs.length : Int)) && (decide ((130048 : Int) = 130048) && decide ((spPutE xs.length 4 (e, f, b)).2.2.length ≤ 130048)))) = true := by
        simpa using spPutE_le (s := (e, f, b)) _ 4 hb
      have e1 : FrDones_5 ((xs, ((xs.length : Int), (0, ()))), ((v, ((spPutE xs.length 4 (e, f, b)).1, ((spPutE xs.length 4 (e, f, b)).2.1, ()))), (((spPutE xs.length 4 (e, f, b)).2.2, (130048, ())), ((), ())))) =
          .ite true (.ret (.ret ((), ((), encOutB v (xs.foldl (fun s x => spDoneRowE v x s) (spPutE xs.length 4 (e, f, b))))))) .no := congrArg (fun c => Tr.ite c _ _) c1
      rw [e1]
      rfl
def spGoneE (v : Int) (t : tGone.den) (s : EnS) : EnS := spDonesE v t.2.1 (spStrE t.1 s)
abbrev iorGone : Io := ⟨[.dat tGone true false, .ptr 0 0], oEnc1, [], [], none⟩
def FrGone (d : iorGone.In) : Tr iorGone.Res := .ite (encOk d.2.2) (.ret (.ret ((), encOut1 d.2.2.1.2.1 (spGoneE d.2.2.1.2.1 d.1.1 (encSt d.2.2))))) .no
abbrev csrGone : List (Nat × Hc) := [(44, ioHd ioeStr FeStr), (56, ioHd iorDones FrDones)]
def hdrGone : Hd := hdT csrGone
def lprGone : Lp := lpT []
def bodyrGone (a0 : List Int) (a1 : List tDone.den) (a2 : Int) (a3 : Int) (a4 : Bool) (a5 : List Int) (a6 : Int) : Option iorGone.Res := bif decide (a6 = 130048) && decide (a5.length ≤ 130048) then bif decide (130048 = 130048) && decide ((spStrE a0 (a3, a4, a5)).snd.snd.length ≤ 130048) then some (Out.ret ((), ((), ()), ((), a2, (spDonesE a2 a1 (spStrE a0 (a3, a4, a5))).fst, (spDonesE a2 a1 (spStrE a0 (a3, a4, a5))).snd.fst, ()), ((spDonesE a2 a1 (spStrE a0 (a3, a4, a5))).snd.snd, 130048, ()), ())) else none else none
theorem runrGone (a0 : List Int) (a1 : List tDone.den) (a2 : Int) (a3 : Int) (a4 : Bool) (a5 : List Int) (a6 : Int) : Io.run tt hdrGone dr lprGone iorGone Go.Proofs.Tryz.f55 (((a0, a1, ()), (), ()), ((), ()), ((), a2, a3, a4, ()), (a5, a6, ()), ()) = bodyrGone a0 a1 a2 a3 a4 a5 a6 := by kernel_rfl
theorem okrGone : HcOk prog 55 (ioHd iorGone FrGone) := by
  refine fn_sound (n := 400) hm (cs := csrGone) (.cons okeStr (.cons okrDones .nil)) (lp := lprGone) (fn := Go.Proofs.Tryz.f55) (by kernel_rfl) (by kernel_rfl) (by kernel_rfl) iorGone (.done (by kernel_rfl)) FrGone ?_
  rintro ⟨⟨⟨(t : List Int), (ps : List tDone.den), ⟨⟩⟩, ⟨⟩, ⟨⟩⟩, ⟨⟨⟩, ⟨⟩⟩, ⟨⟨⟩, (v : Int), (e : Int), (f : Bool), ⟨⟩⟩, ⟨(b : List Int), (m : Int), ⟨⟩⟩, ⟨⟩⟩ out hw ho
  obtain ⟨hg, ho⟩ := Tr.guard ho
  obtain ⟨rfl, hb⟩ := encOk_iff (v := v) (e := e) (f := f) hg
  cases ho
  refine (runrGone t ps v e f b 130048).trans ?_
  unfold bodyrGone
  refine (bif_true (by simpa using hb) _ _).trans ?_
  refine (bif_true (by simpa using spStrE_le (s := (e, f, b)) t hb) _ _).trans ?_
  rfl
theorem spGoneE_le {s : EnS} (v : Int) (t : tGone.den) (h : s.2.2.length ≤ 130048) : (spGoneE v t s).2.2.length ≤ 130048 := spItems_le (fun x s => spDoneRowE_le v x) _ (spStrE_le _ h)
def spGonesE (v : Int) (xs : List tGone.den) (s : EnS) : EnS := spItems (spGoneE v) xs s
abbrev iorGones : Io := ⟨[.ptr 0 0, .dat (.sl 103 tGone) false false, .fnc 55 false [2]], oEncC, [], [], none⟩
def FrGones (d : iorGones.In) : Tr iorGones.Res := .ite (encOkC d.2) (.ret (.ret ((), encOutC d.2.1.2.1 (spGonesE d.2.1.2.1 d.1.2.1 (encStC d.2))))) .no
abbrev csrGones : List (Nat × Hc) := [(100, ioHd ioeFail FeFail), (41, ioHd ioeI32 FeI32), (55, ioHd iorGone FrGone)]
def hdrGones : Hd := hdT csrGones
abbrev lorGones_5 : Lo := ⟨⟨[.any, .any, .one (.fnp 55 false [2]), .any, .any, .any, .any, .any, .any, .any, .any, .any, .any, .any, .any, .any, .any, .any, .one (.hol (.sl 103 (Ty.str.prod ((Ty.sl 105 ((Ty.int IntKind.i32).prod ((Ty.int IntKind.i16).prod ((Ty.int IntKind.i64).prod ((Ty.int IntKind.i64).prod ((Ty.int IntKind.i64).prod Ty.unit)))))).prod Ty.unit)))), .one (.hol (.int IntKind.i64)), .one (.hol (.int IntKind.i64)), .any, .any, .any, .any, .any, .any, .any], [some [.ptr 1 0, .hol (.int IntKind.i64), .hol (.int IntKind.i64), .hol .bool], some [.onl 5 (Ty.int IntKind.u8) 514, .hol (.int IntKind.i64)], some [.ptr 0 0]]⟩, [(.exit 0, ⟨[.any, .any, .any, .any, .any, .any, .any, .any, .any, .any, .any, .any, .any, .any, .any, .any, .any, .any, .any, .any, .any, .any, .any, .any, .any, .any, .any, .any], [some [.ptr 1 0, .hol (.int IntKind.i64), .hol (.int IntKind.i64), .hol .bool], some [.onl 5 (Ty.int IntKind.u8) 514, .hol (.int IntKind.i64)], some [.ptr 0 0]]⟩)]⟩
-- FrGones_5 : lorGones_5.st.den → Tr (DenX lorGones_5.xs) | ((h6, (h7, (h8, ()))), ((h9, (h10, (h11, ()))), ((h12, (h13, ())), ((), ()))))
def FrGones_5 (d : lorGones_5.st.den) : Tr (DenX lorGones_5.xs) :=
  .ite (decide (d.1.2.2.1 = 0) && (decide (d.1.2.1 = (d.1.1.length : Int)) && (decide (d.2.2.1.2.1 = 130048) && decide (d.2.2.1.1.length ≤ 130048)))) (.ret (.ret ((), ((), encOutB d.2.1.1 (d.1.1.foldl (fun s x => spGoneE d.2.1.1 x s) (d.2.1.2.1, (d.2.1.2.2.1, d.2.2.1.1))))))) .no
def lprGones : Lp := lpT [(5, loHd lorGones_5 FrGones_5)]
def steprGones_5 {R : Type} (h6 : List tGone.den) (h7 : Int) (h8 : Int) (h9 : Int) (h10 : Int) (h11 : Bool) (h12 : List Int) (h13 : Int) (next : List tGone.den → Int → Int → Int → Int → Bool → List Int → Int → Option R) (out : DenX lorGones_5.xs → Option R) : Option R := bif decide (h8 < h7) then bif decide (0 ≤ h8) && decide (h8 < (↑h6.length : Int)) then bif decide (h13 = 130048) && decide (h12.length ≤ 130048) then next (h6) (h7) (IntKind.i64.wrap (h8 + 1)) (h9) ((spGoneE h9 ((h6.getD h8.toNat ([], [], ())).fst, (h6.getD h8.toNat ([], [], ())).snd.fst, ()) (h10, h11, h12)).fst) ((spGoneE h9 ((h6.getD h8.toNat ([], [], ())).fst, (h6.getD h8.toNat ([], [], ())).snd.fst, ()) (h10, h11, h12)).snd.fst) ((spGoneE h9 ((h6.getD h8.toNat ([], [], ())).fst, (h6.getD h8.toNat ([], [], ())).snd.fst, ()) (h10, h11, h12)).snd.snd) (130048) else none else none else out (.ret ((), ((), ((h9, (h10, (h11, ()))), ((h12, (h13, ())), ((), ()))))))
def itrGones_5 (n : Nat) (h6 : List tGone.den) (h7 : Int) (h8 : Int) (h9 : Int) (h10 : Int) (h11 : Bool) (h12 : List Int) (h13 : Int) : Option (DenX lorGones_5.xs) := lpN tt hdrGones dr lprGones 3 Go.Proofs.Tryz.f54 (topL Go.Proofs.Tryz.f54 0) n (lorGones_5.st.mk' ((h6, (h7, (h8, ()))), ((h9, (h10, (h11, ()))), ((h12, (h13, ())), ((), ()))))) (decX lorGones_5.xs)
theorem slrGones_5 (n : Nat) (h6 : List tGone.den) (h7 : Int) (h8 : Int) (h9 : Int) (h10 : Int) (h11 : Bool) (h12 : List Int) (h13 : Int) : itrGones_5 (n + 1) h6 h7 h8 h9 h10 h11 h12 h13 = steprGones_5 h6 h7 h8 h9 h10 h11 h12 h13 (itrGones_5 n) some := by kernel_rfl
theorem looprGones {xs : List tGone.den} (v : Int) (hl : xs.length ≤ maxLen) : ∀ (k i : Nat) (s : EnS), xs.length < i + k → i ≤ xs.length → s.2.2.length ≤ 130048 →
    itrGones_5 k xs (xs.length : Int) i v s.1 s.2.1 s.2.2 130048 = some (.ret ((), ((), encOutB v ((xs.drop i).foldl (fun s x => spGoneE v x s) s)))) := by
  intro k
  induction k with
  | zero => intro i s h; omega
  | succ k ih =>
    intro i s h1 h2 h3
    rw [slrGones_5]
    unfold steprGones_5
    by_cases hi : i < xs.length
    · refine (bif_true (decide_eq_true (show (i : Int) < (xs.length : Int) by omega)) _ _).trans ?_
      refine (bif_true (by simpa using hi) _ _).trans ?_
      simp only [Int.toNat_natCast, getD_lt hi, wrap_succ hi hl]
      have g : (decide ((130048 : Int) = 130048) && decide (s.2.2.length ≤ 130048)) = true := by
        simpa using h3
      refine (bif_true g _ _).trans ?_
      rw [List.drop_eq_getElem_cons hi]
      exact ih (i + 1) (spGoneE v xs[i] s) (by omega) (by omega) (spGoneE_le v _ h3)
    · refine (bif_false (by simp; omega) _ _).trans ?_
      rw [List.drop_of_length_le (by omega)]
      rfl
def bodyrGones (a0 : List tGone.den) (a1 : Int) (a2 : Int) (a3 : Bool) (a4 : List Int) (a5 : Int) : Option iorGones.Res := bif decide (16 < (↑a0.length : Int)) then bif decide (a5 = 130048) && decide (a4.length ≤ 130048) then some (Out.ret ((), ((), a1, (spFail 9 (a2, a3, a4)).fst, (spFail 9 (a2, a3, a4)).snd.fst, ()), ((spFail 9 (a2, a3, a4)).snd.snd, 130048, ()), ((), ()), ())) else none else bif decide (a5 = 130048) && decide (a4.length ≤ 130048) then (FrGones_5 ((a0, ((↑a0.length : Int), (0, ()))), ((a1, ((spPutE (IntKind.i32.wrap (↑a0.length : Int)) 4 (a2, a3, a4)).fst, ((spPutE (IntKind.i32.wrap (↑a0.length : Int)) 4 (a2, a3, a4)).snd.fst, ()))), (((spPutE (IntKind.i32.wrap (↑a0.length : Int)) 4 (a2, a3, a4)).snd.snd, (130048, ())), ((), ()))))).run fun y => match y with | .ret ((), ((), (x27, x28, x29, ()), (x30, x31, ()), (), ())) => (some (Out.ret ((), ((), x27, x28, x29, ()), (x30, x31, ()), ((), ()), ()))) else none
theorem runrGones (a0 : List tGone.den) (a1 : Int) (a2 : Int) (a3 : Bool) (a4 : List Int) (a5 : Int) : Io.run tt hdrGones dr lprGones iorGones Go.Proofs.Tryz.f54 (((), a0, (), ()), ((), a1, a2, a3, ()), (a4, a5, ()), ((), ()), ()) = bodyrGones a0 a1 a2 a3 a4 a5 := by kernel_rfl
theorem okrGones : HcOk prog 54 (ioHd iorGones FrGones) := by
  refine fn_sound (n := 400) hm (cs := csrGones) (.cons okeFail (.cons okeI32 (.cons okrGone .nil))) (lp := lprGones) (fn := Go.Proofs.Tryz.f54) (by kernel_rfl) (by kernel_rfl) (by kernel_rfl) iorGones (.step (h0 := loHd lorGones_5 FrGones_5) (by kernel_rfl) (loop_sound (n := 400) hm (cs := csrGones) (.cons okeFail (.cons okeI32 (.cons okrGone .nil))) (lp := lprGones) (fn := Go.Proofs.Tryz.f54) (.done (by kernel_rfl)) lorGones_5 FrGones_5 ?_) (.done (by kernel_rfl))) FrGones ?_
  · rintro ⟨⟨(xs : List tGone.den), (n : Int), (i : Int), ⟨⟩⟩, ⟨⟨(v : Int), (e : Int), (f : Bool), ⟨⟩⟩, ⟨(b : List Int), (m : Int), ⟨⟩⟩, ⟨⟨⟩, ⟨⟩⟩⟩⟩ y hw hy
    obtain ⟨hg, hy⟩ := Tr.guard hy
    simp only [Bool.and_eq_true, decide_eq_true_eq] at hg
    obtain ⟨rfl, rfl, rfl, h4⟩ := hg
    have h4 : b.length ≤ 130048 := h4
    have hl : xs.length ≤ maxLen := hw.1.1.1
    refine ⟨xs.length + 1, (looprGones v hl (xs.length + 1) 0 (e, (f, b)) (by omega) (by omega) h4).trans ?_⟩
    rw [← hy]; rfl
  · rintro ⟨⟨⟨⟩, (xs : List tGone.den), ⟨⟩, ⟨⟩⟩, ⟨⟨⟩, (v : Int), (e : Int), (f : Bool), ⟨⟩⟩, ⟨(b : List Int), (m : Int), ⟨⟩⟩, ⟨⟨⟩, ⟨⟩⟩, ⟨⟩⟩ out hw ho
    obtain ⟨hg, ho⟩ := Tr.guard ho
    obtain ⟨rfl, hb⟩ := encOk_iff (v := v) (e := e) (f := f) hg
    cases ho
    refine (runrGones xs v e f b 130048).trans ?_
    unfold bodyrGones
    have g : (decide ((130048 : Int) = 130048) && decide (b.length ≤ 130048)) = true := by simpa using hb
    show _ = some (Out.ret ((), encOutC v (spItems (spGoneE v) xs (e, f, b))))
    unfold spItems
    by_cases h : 16 < (xs.length : Int)
    · rw [if_pos h]
      refine (bif_true (decide_eq_true h) _ _).trans ?_
      exact bif_true g _ _
    · rw [if_neg h]
      refine (bif_false (decide_eq_false h) _ _).trans ?_
      refine (bif_true g _ _).trans ?_
      have hw32 : IntKind.i32.wrap (xs.length : Int) = xs.length := wrap_id (by simp [inR, IntKind.min, IntKind.max, IntKind.signed, IntKind.bits]; omega)
      rw [hw32]
      have c1 : (decide ((0 : Int) = 0) && (decide ((xs.length : Int) = (xs.length : Int)) && (decide ((130048 : Int) = 130048) && decide ((spPutE xs.length 4 (e, f, b)).2.2.length ≤ 130048)))) = true := by
        simpa using spPutE_le (s := (e, f, b)) _ 4 hb
      have e1 : FrGones_5 ((xs, ((xs.length : Int), (0, ()))), ((v, ((spPutE xs.length 4 (e, f, b)).1, ((spPutE xs.length 4 (e, f, b)).2.1, ()))), (((spPutE xs.length 4 (e, f, b)).2.2, (130048, ())), ((), ())))) =
          .ite true (.ret (.ret ((), ((), encOutB v (xs.foldl (fun s x => spGoneE v x s) (spPutE xs.length 4 (e, f, b))))))) .no := congrArg (fun c => Tr.ite c _ _) c1
      rw [e1]
      rfl
def spLackP (v : Int) (p : tDone.den) (s : EnS) : EnS := spLacks v (p.2.2.2.2.1 == 0) 3 3 (spLacks v (p.2.2.2.1 == 0) 2 3 s)
def spLackPs (v : Int) (ps : List tDone.den) (s : EnS) : EnS := ps.foldl (fun s p => spLackP v p s) s
def spLackR (v : Int) (ts : List tGone.den) (s : EnS) : EnS := ts.foldl (fun s t => spLackPs v t.2.1 s) s
def spRepE (v : Int) (m : tRep.den) : EnS :=
  spHasE v 1 3 m.2.1 4 (spGonesE v m.1 (spLackR v m.1 (spLacks v (m.2.1 == 0) 1 3 (spNewE v, (false, ([] : List Int))))))
abbrev iorRep : Io := ⟨[dI, .dat tRep true false], [], [], [dO, dI], none⟩
def FrRep (d : iorRep.In) : Tr iorRep.Res := .ret (.ret ((spDoneO (spRepE d.1.1 d.1.2.1), (spDoneE (spRepE d.1.1 d.1.2.1), ())), ()))
abbrev csrRep : List (Nat × Hc) := [(36, ioHd ioeNew FeNew), (37, ioHd ioeLacks FeLacks), (38, ioHd ioeHas FeHas), (41, ioHd ioeI32 FeI32), (54, ioHd iorGones FrGones), (48, ioHd ioeDone FeDone)]
def hdrRep : Hd := hdT csrRep
abbrev lorRep_8 : Lo := ⟨⟨[.any, .any, .any, .one (.ptr 3 0), .any, .any, .one (.ptr 6 0), .any, .any, .any, .any, .any, .any, .any, .any, .any, .any, .any, .any, .one (.hol (.sl 103 (Ty.str.prod ((Ty.sl 105 ((Ty.int IntKind.i32).prod ((Ty.int IntKind.i16).prod ((Ty.int IntKind.i64).prod ((Ty.int IntKind.i64).prod ((Ty.int IntKind.i64).prod Ty.unit)))))).prod Ty.unit)))), .one (.hol (.int IntKind.i64)), .one (.hol (.int IntKind.i64)), .any, .any, .any, .any, .one (.hol (.sl 105 ((Ty.int IntKind.i32).prod ((Ty.int IntKind.i16).prod ((Ty.int IntKind.i64).prod ((Ty.int IntKind.i64).prod ((Ty.int IntKind.i64).prod Ty.unit))))))), .one (.hol (.int IntKind.i64)), .one (.hol (.int IntKind.i64)), .any, .any, .any, .any, .any, .any, .any, .any, .any, .any, .any, .any, .any, .any, .any, .any, .any, .any, .any, .any, .any, .any, .any, .any, .any, .any, .any, .any, .any, .any], [none, none, none, some [.hol (.sl 103 (Ty.str.prod ((Ty.sl 105 ((Ty.int IntKind.i32).prod ((Ty.int IntKind.i16).prod ((Ty.int IntKind.i64).prod ((Ty.int IntKind.i64).prod ((Ty.int IntKind.i64).prod Ty.unit)))))).prod Ty.unit))), .hol (.int IntKind.i32)], none, none, some [.ptr 12 0], none, none, none, none, none, some [.ptr 13 0, .hol (.int IntKind.i64), .hol (.int IntKind.i64), .hol .bool], some [.onl 5 (Ty.int IntKind.u8) 6658, .hol (.int IntKind.i64)]]⟩, [(.exit 2, ⟨[.any, .any, .any, .one (.ptr 3 0), .any, .any, .one (.ptr 6 0), .any, .any, .any, .any, .any, .any, .any, .any, .any, .any, .any, .any, .one (.hol (.sl 103 (Ty.str.prod ((Ty.sl 105 ((Ty.int IntKind.i32).prod ((Ty.int IntKind.i16).prod ((Ty.int IntKind.i64).prod ((Ty.int IntKind.i64).prod ((Ty.int IntKind.i64).prod Ty.unit)))))).prod Ty.unit)))), .one (.hol (.int IntKind.i64)), .one (.hol (.int IntKind.i64)), .any, .any, .any, .any, .any, .any, .any, .any, .any, .any, .any, .any, .any, .any, .any, .any, .any, .any, .any, .any, .any, .any, .any, .any, .any, .any, .any, .any, .any, .any, .any, .any, .any, .any, .any, .any, .any], [none, none, none, some [.hol (.sl 103 (Ty.str.prod ((Ty.sl 105 ((Ty.int IntKind.i32).prod ((Ty.int IntKind.i16).prod ((Ty.int IntKind.i64).prod ((Ty.int IntKind.i64).prod ((Ty.int IntKind.i64).prod Ty.unit)))))).prod Ty.unit))), .hol (.int IntKind.i32)], none, none, some [.ptr 12 0], none, none, none, none, none, some [.ptr 13 0, .hol (.int IntKind.i64), .hol (.int IntKind.i64), .hol .bool], some [.onl 5 (Ty.int IntKind.u8) 6658, .hol (.int IntKind.i64)]]⟩)]⟩
-- FrRep_8 : lorRep_8.st.den → Tr (DenX lorRep_8.xs) | ((h13, (h14, (h15, (h16, (h17, (h18, ())))))), ((h19, (h20, ())), ((), ((h21, (h22, (h23, ()))), ((h24, (h25, ())), ())))))
abbrev lorRep_5 : Lo := ⟨⟨[.any, .any, .any, .one (.ptr 3 0), .any, .any, .one (.ptr 6 0), .any, .any, .any, .any, .any, .any, .any, .any, .any, .any, .any, .any, .one (.hol (.sl 103 (Ty.str.prod ((Ty.sl 105 ((Ty.int IntKind.i32).prod ((Ty.int IntKind.i16).prod ((Ty.int IntKind.i64).prod ((Ty.int IntKind.i64).prod ((Ty.int IntKind.i64).prod Ty.unit)))))).prod Ty.unit)))), .one (.hol (.int IntKind.i64)), .one (.hol (.int IntKind.i64)), .any, .any, .any, .any, .any, .any, .any, .any, .any, .any, .any, .any, .any, .any, .any, .any, .any, .any, .any, .any, .any, .any, .any, .any, .any, .any, .any, .any, .any, .any, .any, .any, .any, .any, .any, .any, .any], [none, none, none, some [.hol (.sl 103 (Ty.str.prod ((Ty.sl 105 ((Ty.int IntKind.i32).prod ((Ty.int IntKind.i16).prod ((Ty.int IntKind.i64).prod ((Ty.int IntKind.i64).prod ((Ty.int IntKind.i64).prod Ty.unit)))))).prod Ty.unit))), .hol (.int IntKind.i32)], none, none, some [.ptr 12 0], none, none, none, none, none, some [.ptr 13 0, .hol (.int IntKind.i64), .hol (.int IntKind.i64), .hol .bool], some [.onl 5 (Ty.int IntKind.u8) 6658, .hol (.int IntKind.i64)]]⟩, [(.exit 0, ⟨[.any, .any, .any, .one (.ptr 3 0), .any, .any, .one (.ptr 6 0), .any, .any, .any, .any, .any, .any, .any, .any, .any, .any, .any, .any, .any, .any, .any, .any, .any, .any, .any, .any, .any, .any, .any, .any, .any, .any, .any, .any, .any, .any, .any, .any, .any, .any, .any, .any, .any, .any, .any, .any, .any, .any, .any, .any, .any, .any, .any, .any, .any, .any, .any, .any], [none, none, none, some [.hol (.sl 103 (Ty.str.prod ((Ty.sl 105 ((Ty.int IntKind.i32).prod ((Ty.int IntKind.i16).prod ((Ty.int IntKind.i64).prod ((Ty.int IntKind.i64).prod ((Ty.int IntKind.i64).prod Ty.unit)))))).prod Ty.unit))), .hol (.int IntKind.i32)], none, none, some [.ptr 12 0], none, none, none, none, none, some [.ptr 13 0, .hol (.int IntKind.i64), .hol (.int IntKind.i64), .hol .bool], some [.onl 5 (Ty.int IntKind.u8) 6658, .hol (.int IntKind.i64)]]⟩)]⟩
-- FrRep_5 : lorRep_5.st.den → Tr (DenX lorRep_5.xs) | ((h3, (h4, (h5, ()))), ((h6, (h7, ())), ((), ((h8, (h9, (h10, ()))), ((h11, (h12, ())), ())))))
abbrev outB2 (ts : List tGone.den) (thr v : Int) (s : EnS) : (List tGone.den × (Int × Unit)) × (Unit × ((Int × (Int × (Bool × Unit))) × ((List Int × (Int × Unit)) × Unit))) := ((ts, (thr, ())), ((), ((v, (s.1, (s.2.1, ()))), ((s.2.2, (130048, ())), ()))))
def FrRep_8 (d : lorRep_8.st.den) : Tr (DenX lorRep_8.xs) :=
  .ite (decide (d.1.2.2.2.2.2.1 = 0) && (decide (d.1.2.2.2.2.1 = (d.1.2.2.2.1.length : Int)) && (decide (d.2.2.2.2.1.2.1 = 130048) && decide (d.2.2.2.2.1.1.length ≤ 130048)))) (.ret (.ret ((), ((d.1.1, (d.1.2.1, (d.1.2.2.1, ()))), outB2 d.2.1.1 d.2.1.2.1 d.2.2.2.1.1 (spLackPs d.2.2.2.1.1 d.1.2.2.2.1 (d.2.2.2.1.2.1, (d.2.2.2.1.2.2.1, d.2.2.2.2.1.1))))))) .no
def FrRep_5 (d : lorRep_5.st.den) : Tr (DenX lorRep_5.xs) :=
  .ite (decide (d.1.2.2.1 = 0) && (decide (d.1.2.1 = (d.1.1.length : Int)) && (decide (d.2.2.2.2.1.2.1 = 130048) && decide (d.2.2.2.2.1.1.length ≤ 130048)))) (.ret (.ret ((), ((), outB2 d.2.1.1 d.2.1.2.1 d.2.2.2.1.1 (spLackR d.2.2.2.1.1 d.1.1 (d.2.2.2.1.2.1, (d.2.2.2.1.2.2.1, d.2.2.2.2.1.1))))))) .no
def lprRep : Lp := lpT [(5, loHd lorRep_5 FrRep_5), (8, loHd lorRep_8 FrRep_8)]
def steprRep_8 {R : Type} (h13 : List tGone.den) (h14 : Int) (h15 : Int) (h16 : List tDone.den) (h17 : Int) (h18 : Int) (h19 : List tGone.den) (h20 : Int) (h21 : Int) (h22 : Int) (h23 : Bool) (h24 : List Int) (h25 : Int) (next : List tGone.den → Int → Int → List tDone.den → Int → Int → List tGone.den → Int → Int → Int → Bool → List Int → Int → Option R) (out : DenX lorRep_8.xs → Option R) : Option R := bif decide (h18 < h17) then bif decide (0 ≤ h18) && decide (h18 < (↑h16.length : Int)) then bif decide (h25 = 130048) && decide (h24.length ≤ 130048) then bif decide (130048 = 130048) && decide ((spLacks h21 ((h16.getD h18.toNat (0, 0, 0, 0, 0, ())).snd.snd.snd.fst == 0) 2 3 (h22, h23, h24)).snd.snd.length ≤ 130048) then next (h13) (h14) (h15) (h16) (h17) (IntKind.i64.wrap (h18 + 1)) (h19) (h20) (h21) ((spLacks h21 ((h16.getD h18.toNat (0, 0, 0, 0, 0, ())).snd.snd.snd.snd.fst == 0) 3 3 (spLacks h21 ((h16.getD h18.toNat (0, 0, 0, 0, 0, ())).snd.snd.snd.fst == 0) 2 3 (h22, h23, h24))).fst) ((spLacks h21 ((h16.getD h18.toNat (0, 0, 0, 0, 0, ())).snd.snd.snd.snd.fst == 0) 3 3 (spLacks h21 ((h16.getD h18.toNat (0, 0, 0, 0, 0, ())).snd.snd.snd.fst == 0) 2 3 (h22, h23, h24))).snd.fst) ((spLacks h21 ((h16.getD h18.toNat (0, 0, 0, 0, 0, ())).snd.snd.snd.snd.fst == 0) 3 3 (spLacks h21 ((h16.getD h18.toNat (0, 0, 0, 0, 0, ())).snd.snd.snd.fst == 0) 2 3 (h22, h23, h24))).snd.snd) (130048) else none else none else none else out (.ret ((), ((h13, (h14, (h15, ()))), ((h19, (h20, ())), ((), ((h21, (h22, (h23, ()))), ((h24, (h25, ())), ())))))))
def itrRep_8 (n : Nat) (h13 : List tGone.den) (h14 : Int) (h15 : Int) (h16 : List tDone.den) (h17 : Int) (h18 : Int) (h19 : List tGone.den) (h20 : Int) (h21 : Int) (h22 : Int) (h23 : Bool) (h24 : List Int) (h25 : Int) : Option (DenX lorRep_8.xs) := lpN tt hdrRep dr lprRep 0 Go.Proofs.Tryz.f16 (subL Go.Proofs.Tryz.f16 (topL Go.Proofs.Tryz.f16 0) 0) n (lorRep_8.st.mk' ((h13, (h14, (h15, (h16, (h17, (h18, ())))))), ((h19, (h20, ())), ((), ((h21, (h22, (h23, ()))), ((h24, (h25, ())), ())))))) (decX lorRep_8.xs)
theorem slrRep_8 (n : Nat) (h13 : List tGone.den) (h14 : Int) (h15 : Int) (h16 : List tDone.den) (h17 : Int) (h18 : Int) (h19 : List tGone.den) (h20 : Int) (h21 : Int) (h22 : Int) (h23 : Bool) (h24 : List Int) (h25 : Int) : itrRep_8 (n + 1) h13 h14 h15 h16 h17 h18 h19 h20 h21 h22 h23 h24 h25 = steprRep_8 h13 h14 h15 h16 h17 h18 h19 h20 h21 h22 h23 h24 h25 (itrRep_8 n) some := by kernel_rfl
def steprRep_5 {R : Type} (h3 : List tGone.den) (h4 : Int) (h5 : Int) (h6 : List tGone.den) (h7 : Int) (h8 : Int) (h9 : Int) (h10 : Bool) (h11 : List Int) (h12 : Int) (next : List tGone.den → Int → Int → List tGone.den → Int → Int → Int → Bool → List Int → Int → Option R) (out : DenX lorRep_5.xs → Option R) : Option R := bif decide (h5 < h4) then bif decide (0 ≤ h5) && decide (h5 < (↑h3.length : Int)) then (FrRep_8 ((h3, (h4, (h5, ((h3.getD h5.toNat ([], [], ())).snd.fst, ((↑(List.length (h3.getD h5.toNat ([], [], ())).snd.fst) : Int), (0, ())))))), ((h6, (h7, ())), ((), ((h8, (h9, (h10, ()))), ((h11, (h12, ())), ())))))).run fun y => match y with | .ret ((), ((x49, x50, x51, ()), (x52, x53, ()), (), (x54, x55, x56, ()), (x57, x58, ()), ())) => (next (x49) (x50) (IntKind.i64.wrap (x51 + 1)) (x52) (x53) (x54) (x55) (x56) (x57) (x58)) else none else out (.ret ((), ((), ((h6, (h7, ())), ((), ((h8, (h9, (h10, ()))), ((h11, (h12, ())), ())))))))
def itrRep_5 (n : Nat) (h3 : List tGone.den) (h4 : Int) (h5 : Int) (h6 : List tGone.den) (h7 : Int) (h8 : Int) (h9 : Int) (h10 : Bool) (h11 : List Int) (h12 : Int) : Option (DenX lorRep_5.xs) := lpN tt hdrRep dr lprRep 0 Go.Proofs.Tryz.f16 (topL Go.Proofs.Tryz.f16 0) n (lorRep_5.st.mk' ((h3, (h4, (h5, ()))), ((h6, (h7, ())), ((), ((h8, (h9, (h10, ()))), ((h11, (h12, ())), ())))))) (decX lorRep_5.xs)
theorem slrRep_5 (n : Nat) (h3 : List tGone.den) (h4 : Int) (h5 : Int) (h6 : List tGone.den) (h7 : Int) (h8 : Int) (h9 : Int) (h10 : Bool) (h11 : List Int) (h12 : Int) : itrRep_5 (n + 1) h3 h4 h5 h6 h7 h8 h9 h10 h11 h12 = steprRep_5 h3 h4 h5 h6 h7 h8 h9 h10 h11 h12 (itrRep_5 n) some := by kernel_rfl
theorem spLackP_le {s : EnS} (v : Int) (p : tDone.den) (h : s.2.2.length ≤ 130048) : (spLackP v p s).2.2.length ≤ 130048 := spLacks_le _ _ _ _ (spLacks_le _ _ _ _ h)
theorem spLackPs_le {s : EnS} (v : Int) (ps : List tDone.den) (h : s.2.2.length ≤ 130048) : (spLackPs v ps s).2.2.length ≤ 130048 := foldl_le (fun x s => spLackP_le v x) ps s h
theorem spLackR_le {s : EnS} (v : Int) (ts : List tGone.den) (h : s.2.2.length ≤ 130048) : (spLackR v ts s).2.2.length ≤ 130048 := foldl_le (one := fun (t : tGone.den) (s : EnS) => spLackPs v t.2.1 s) (fun x s h => spLackPs_le v x.2.1 h) ts s h
theorem looprRep_8 (ts : List tGone.den) (n i : Int) (ts' : List tGone.den) (thr v : Int) {ps : List tDone.den} (hl : ps.length ≤ maxLen) : ∀ (k j : Nat) (s : EnS), ps.length < j + k → j ≤ ps.length → s.2.2.length ≤ 130048 →
    itrRep_8 k ts n i ps (ps.length : Int) j ts' thr v s.1 s.2.1 s.2.2 130048 = some (.ret ((), ((ts, (n, (i, ()))), outB2 ts' thr v ((ps.drop j).foldl (fun s p => spLackP v p s) s)))) := by
  intro k
  induction k with
  | zero => intro j s h; omega
  | succ k ih =>
    intro j s h1 h2 h3
    rw [slrRep_8]
    unfold steprRep_8
    by_cases hi : j < ps.length
    · refine (bif_true (decide_eq_true (show (j : Int) < (ps.length : Int) by omega)) _ _).trans ?_
      refine (bif_true (by simpa using hi) _ _).trans ?_
      simp only [Int.toNat_natCast, getD_lt hi, wrap_succ hi hl]
      refine (bif_true (by simpa using h3) _ _).trans ?_
      refine (bif_true (by simpa using spLacks_le (s := s) v (ps[j].2.2.2.1 == 0) 2 3 h3) _ _).trans ?_
      rw [List.drop_eq_getElem_cons hi]
      exact ih (j + 1) (spLackP v ps[j] s) (by omega) (by omega) (spLackP_le _ _ h3)
    · refine (bif_false (by simp; omega) _ _).trans ?_
      rw [List.drop_of_length_le (by omega)]
      rfl
theorem looprRep_5 {ts : List tGone.den} (ts' : List tGone.den) (thr v : Int) (hl : ts.length ≤ maxLen) : ∀ (k j : Nat) (s : EnS), ts.length < j + k → j ≤ ts.length → s.2.2.length ≤ 130048 →
    itrRep_5 k ts (ts.length : Int) j ts' thr v s.1 s.2.1 s.2.2 130048 = some (.ret ((), ((), outB2 ts' thr v ((ts.drop j).foldl (fun s t => spLackPs v t.2.1 s) s)))) := by
  intro k
  induction k with
  | zero => intro j s h; omega
  | succ k ih =>
    intro j s h1 h2 h3
    rw [slrRep_5]
    unfold steprRep_5
    by_cases hi : j < ts.length
    · refine (bif_true (decide_eq_true (show (j : Int) < (ts.length : Int) by omega)) _ _).trans ?_
      refine (bif_true (by simpa using hi) _ _).trans ?_
      simp only [Int.toNat_natCast, getD_lt hi]
      have c1 : (decide ((0 : Int) = 0) && (decide ((ts[j].2.1.length : Int) = (ts[j].2.1.length : Int)) && (decide ((130048 : Int) = 130048) && decide (s.2.2.length ≤ 130048)))) = true := by simpa using h3
      have e1 : FrRep_8 ((ts, ((ts.length : Int), ((j : Int), (ts[j].2.1, ((ts[j].2.1.length : Int), (0, ())))))), ((ts', (thr, ())), ((), ((v, (s.1, (s.2.1, ()))), ((s.2.2, (130048, ())), ()))))) =
          .ite true (.ret (.ret ((), ((ts, ((ts.length : Int), ((j : Int), ()))), outB2 ts' thr v (spLackPs v ts[j].2.1 s))))) .no := congrArg (fun c => Tr.ite c _ _) c1
      rw [e1]
      show itrRep_5 k ts (ts.length : Int) (IntKind.i64.wrap ((j : Int) + 1)) ts' thr v (spLackPs v ts[j].2.1 s).1 (spLackPs v ts[j].2.1 s).2.1 (spLackPs v ts[j].2.1 s).2.2 130048 = _
      rw [wrap_succ hi hl, List.drop_eq_getElem_cons hi]
      exact ih (j + 1) (spLackPs v ts[j].2.1 s) (by omega) (by omega) (spLackPs_le _ _ h3)
    · refine (bif_false (by simp; omega) _ _).trans ?_
      rw [List.drop_of_length_le (by omega)]
      rfl
def bodyrRep (a0 : Int) (a1 : List tGone.den) (a2 : Int) : Option iorRep.Res := (FrRep_5 ((a1, ((↑a1.length : Int), (0, ()))), ((a1, (a2, ())), ((), ((a0, ((spLacks a0 (a2 == 0) 1 3 (spNewE a0, false, [])).fst, ((spLacks a0 (a2 == 0) 1 3 (spNewE a0, false, [])).snd.fst, ()))), (((spLacks a0 (a2 == 0) 1 3 (spNewE a0, false, [])).snd.snd, (130048, ())), ())))))).run fun y => match y with | .ret ((), ((), (x76, x77, ()), (), (x78, x79, x80, ()), (x81, x82, ()), ())) => (bif decide (x82 = 130048) && decide (x81.length ≤ 130048) then bif decide (130048 = 130048) && decide ((spGonesE x78 x76 (x79, x80, x81)).snd.snd.length ≤ 130048) then bif decide (1 ≤ x78) && decide (x78 ≤ 3) then bif decide (130048 = 130048) && decide ((spGonesE x78 x76 (x79, x80, x81)).snd.snd.length ≤ 130048) then bif decide (130048 = 130048) && decide ((spPutE x77 4 (spGonesE x78 x76 (x79, x80, x81))).snd.snd.length ≤ 130048) then some (Out.ret ((spDoneO (spPutE x77 4 (spGonesE x78 x76 (x79, x80, x81))), spDoneE (spPutE x77 4 (spGonesE x78 x76 (x79, x80, x81))), ()), ())) else none else none else bif decide (130048 = 130048) && decide ((spGonesE x78 x76 (x79, x80, x81)).snd.snd.length ≤ 130048) then some (Out.ret ((spDoneO (spGonesE x78 x76 (x79, x80, x81)), spDoneE (spGonesE x78 x76 (x79, x80, x81)), ()), ())) else none else none else none)
theorem runrRep (a0 : Int) (a1 : List tGone.den) (a2 : Int) : Io.run tt hdrRep dr lprRep iorRep Go.Proofs.Tryz.f16 ((a0, (a1, a2, ()), ()), ()) = bodyrRep a0 a1 a2 := by kernel_rfl
theorem okrRep : HcOk prog 16 (ioHd iorRep FrRep) := by
  refine fn_sound (n := 400) hm (cs := csrRep) (.cons okeNew (.cons okeLacks (.cons okeHas (.cons okeI32 (.cons okrGones (.cons okeDone .nil)))))) (lp := lprRep) (fn := Go.Proofs.Tryz.f16) (by kernel_rfl) (by kernel_rfl) (by kernel_rfl) iorRep (.step (h0 := loHd lorRep_5 FrRep_5) (by kernel_rfl) (loop_sound (n := 400) hm (cs := csrRep) (.cons okeNew (.cons okeLacks (.cons okeHas (.cons okeI32 (.cons okrGones (.cons okeDone .nil)))))) (lp := lprRep) (fn := Go.Proofs.Tryz.f16) (.step (h0 := loHd lorRep_8 FrRep_8) (by kernel_rfl) (loop_sound (n := 400) hm (cs := csrRep) (.cons okeNew (.cons okeLacks (.cons okeHas (.cons okeI32 (.cons okrGones (.cons okeDone .nil)))))) (lp := lprRep) (fn := Go.Proofs.Tryz.f16) (.done (by kernel_rfl)) lorRep_8 FrRep_8 ?_) (.done (by kernel_rfl))) lorRep_5 FrRep_5 ?_) (.done (by kernel_rfl))) FrRep ?_
  · rintro ⟨⟨(ts : List tGone.den), (n : Int), (i : Int), (ps : List tDone.den), (pn : Int), (pj : Int), ⟨⟩⟩, ⟨⟨(ts' : List tGone.den), (thr : Int), ⟨⟩⟩, ⟨⟩, ⟨(v : Int), (e : Int), (f : Bool), ⟨⟩⟩, ⟨(b : List Int), (m : Int), ⟨⟩⟩, ⟨⟩⟩⟩ y hw hy
    obtain ⟨hg, hy⟩ := Tr.guard hy
    simp only [Bool.and_eq_true, decide_eq_true_eq] at hg
    obtain ⟨rfl, rfl, rfl, h4⟩ := hg
    have h4 : b.length ≤ 130048 := h4
    have hl : ps.length ≤ maxLen := hw.1.2.2.2.1.1
    refine ⟨ps.length + 1, (looprRep_8 ts n i ts' thr v hl (ps.length + 1) 0 (e, (f, b)) (by omega) (by omega) h4).trans ?_⟩
    rw [← hy]; rfl
  · rintro ⟨⟨(ts : List tGone.den), (n : Int), (i : Int), ⟨⟩⟩, ⟨⟨(ts' : List tGone.den), (thr : Int), ⟨⟩⟩, ⟨⟩, ⟨(v : Int), (e : Int), (f : Bool), ⟨⟩⟩, ⟨(b : List Int), (m : Int), ⟨⟩⟩, ⟨⟩⟩⟩ y hw hy
    obtain ⟨hg, hy⟩ := Tr.guard hy
    simp only [Bool.and_eq_true, decide_eq_true_eq] at hg
    obtain ⟨rfl, rfl, rfl, h4⟩ := hg
    have h4 : b.length ≤ 130048 := h4
    have hl : ts.length ≤ maxLen := hw.1.1.1
    refine ⟨ts.length + 1, (looprRep_5 ts' thr v hl (ts.length + 1) 0 (e, (f, b)) (by omega) (by omega) h4).trans ?_⟩
    rw [← hy]; rfl
  · rintro ⟨⟨(v : Int), ⟨(ts : List tGone.den), (thr : Int), ⟨⟩⟩, ⟨⟩⟩, ⟨⟩⟩ out hw ho
    cases ho
    refine (runrRep v ts thr).trans ?_
    unfold bodyrRep
    have hg : ∀ s : EnS, s.2.2.length ≤ 130048 → (decide ((130048 : Int) = 130048) && decide (s.2.2.length ≤ 130048)) = true := fun s h => by simpa using h
    have l0 : (spLacks v (thr == 0) 1 3 (spNewE v, (false, ([] : List Int)))).2.2.length ≤ 130048 := spLacks_le _ _ _ _ (by simp)
    have c1 : (decide ((0 : Int) = 0) && (decide ((ts.length : Int) = (ts.length : Int)) && (decide ((130048 : Int) = 130048) && decide ((spLacks v (thr == 0) 1 3 (spNewE v, (false, ([] : List Int)))).2.2.length ≤ 130048)))) = true := by simpa using l0
    have e1 : FrRep_5 ((ts, ((ts.length : Int), (0, ()))), ((ts, (thr, ())), ((), ((v, ((spLacks v (thr == 0) 1 3 (spNewE v, (false, ([] : List Int)))).1, ((spLacks v (thr == 0) 1 3 (spNewE v, (false, ([] : List Int)))).2.1, ()))), (((spLacks v (thr == 0) 1 3 (spNewE v, (false, ([] : List Int)))).2.2, (130048, ())), ()))))) =
        .ite true (.ret (.ret ((), ((), outB2 ts thr v (spLackR v ts (spLacks v (thr == 0) 1 3 (spNewE v, (false, ([] : List Int))))))))) .no := congrArg (fun c => Tr.ite c _ _) c1
    rw [e1]
    have l1 := spLackR_le v ts l0
    have l2 : (spGonesE v ts (spLackR v ts (spLacks v (thr == 0) 1 3 (spNewE v, (false, ([] : List Int)))))).2.2.length ≤ 130048 := spItems_le (fun x s => spGoneE_le v x) _ l1
    refine (bif_true (hg _ l1) _ _).trans ?_
    refine (bif_true (hg _ l2) _ _).trans ?_
    show _ = some (Out.ret ((spDoneO (spRepE v (ts, (thr, ()))), (spDoneE (spRepE v (ts, (thr, ()))), ())), ()))
    unfold spRepE spHasE
    by_cases h : 1 ≤ v ∧ v ≤ 3
    · rw [if_pos h]
      refine (bif_true (show (decide (1 ≤ v) && decide (v ≤ 3)) = true by simpa using h) _ _).trans ?_
      refine (bif_true (hg _ l2) _ _).trans ?_
      exact bif_true (hg _ (spPutE_le _ _ l2)) _ _
    · rw [if_neg h]
      refine (bif_false (show (decide (1 ≤ v) && decide (v ≤ 3)) = false by simp; omega) _ _).trans ?_
      exact bif_true (hg _ l2) _ _
end
end Go.Proofs.YtmlgepgcofmpeaaGreat.Sym
namespace Go.Proofs.YtmlgepgcofmpeaaGreat.Sym
open Go
set_option linter.unusedSimpArgs false
set_option linter.unusedVariables false
noncomputable section
def spDHasN (k : IntKind) (n : Nat) (v lo hi : Int) (b : List Int) (s : DeS) : Int × DeS := if spDHas v lo hi s.1 = true then spDn k n b s else (0, s)
theorem spDHasN_ok {k : IntKind} {n : Nat} {v lo hi : Int} {b : List Int} {s : DeS} (h : spDok b s.2 = true) : spDok b (spDHasN k n v lo hi b s).2.2 = true := by
  unfold spDHasN
  split
  · exact spDn_ok _ _ h
  · exact h
def spD3 (b : List Int) (s : DeS) : DeS := (spDn .i64 8 b (spDn .i16 2 b (spDn .i32 4 b s).2).2).2
@[irreducible] noncomputable def spDDone (v : Int) (b : List Int) (s : DeS) : tDone.den × DeS :=
  (((spDn .i32 4 b s).1, ((spDn .i16 2 b (spDn .i32 4 b s).2).1, ((spDn .i64 8 b (spDn .i16 2 b (spDn .i32 4 b s).2).2).1, ((spDHasN .i64 8 v 2 3 b (spD3 b s)).1, ((spDHasN .i64 8 v 3 3 b (spDHasN .i64 8 v 2 3 b (spD3 b s)).2).1, ()))))), (spDHasN .i64 8 v 3 3 b (spDHasN .i64 8 v 2 3 b (spD3 b s)).2).2)
theorem spD3_ok {b : List Int} {s : DeS} (h : spDok b s.2 = true) : spDok b (spD3 b s).2 = true := spDn_ok _ _ (spDn_ok _ _ (spDn_ok _ _ h))
theorem spDDone_ok {v : Int} {b : List Int} {s : DeS} (h : spDok b s.2 = true) : spDok b (spDDone v b s).2.2 = true := by
  unfold spDDone
  exact spDHasN_ok (spDHasN_ok (spD3_ok h))
abbrev iowDone : Io := ⟨[.ptr 0 0], oDec1, [], [.dat tDone true false], none⟩
def FwDone (d : iowDone.In) : Tr iowDone.Res := .ite (spDok d.2.2.2.1.1 d.2.2.2.1.2.1) (.ret (.ret (((spDDone d.2.2.1.2.1 d.2.2.2.1.1 (decSt d.2.2)).1, ()), decOut1 d.2.2.1.2.1 d.2.2.2.1.1 (spDDone d.2.2.1.2.1 d.2.2.2.1.1 (decSt d.2.2)).2))) .no
abbrev cswDone : List (Nat × Hc) := [(64, ioHd iodI32 FdI32), (63, ioHd iodI16 FdI16), (76, ioHd iodI64 FdI64), (61, ioHd iodHas FdHas)]
def hdwDone : Hd := hdT cswDone
def lpwDone : Lp := lpT []
def bodywDone (a0 : Int) (a1 : Int) (a2 : List Int) (a3 : Int) : Option iowDone.Res := bif spDok a2 a3 then bif spDok a2 (spDn IntKind.i32 4 a2 (a1, a3)).snd.snd then bif spDok a2 (spDn IntKind.i16 2 a2 (spDn IntKind.i32 4 a2 (a1, a3)).snd).snd.snd then bif spDHas a0 2 3 (spDn IntKind.i64 8 a2 (spDn IntKind.i16 2 a2 (spDn IntKind.i32 4 a2 (a1, a3)).snd).snd).snd.fst then bif spDok a2 (spDn IntKind.i64 8 a2 (spDn IntKind.i16 2 a2 (spDn IntKind.i32 4 a2 (a1, a3)).snd).snd).snd.snd then bif spDHas a0 3 3 (spDn IntKind.i64 8 a2 (spDn IntKind.i64 8 a2 (spDn IntKind.i16 2 a2 (spDn IntKind.i32 4 a2 (a1, a3)).snd).snd).snd).snd.fst then bif spDok a2 (spDn IntKind.i64 8 a2 (spDn IntKind.i64 8 a2 (spDn IntKind.i16 2 a2 (spDn IntKind.i32 4 a2 (a1, a3)).snd).snd).snd).snd.snd then some (Out.ret ((((spDn IntKind.i32 4 a2 (a1, a3)).fst, (spDn IntKind.i16 2 a2 (spDn IntKind.i32 4 a2 (a1, a3)).snd).fst, (spDn IntKind.i64 8 a2 (spDn IntKind.i16 2 a2 (spDn IntKind.i32 4 a2 (a1, a3)).snd).snd).fst, (spDn IntKind.i64 8 a2 (spDn IntKind.i64 8 a2 (spDn IntKind.i16 2 a2 (spDn IntKind.i32 4 a2 (a1, a3)).snd).snd).snd).fst, (spDn IntKind.i64 8 a2 (spDn IntKind.i64 8 a2 (spDn IntKind.i64 8 a2 (spDn IntKind.i16 2 a2 (spDn IntKind.i32 4 a2 (a1, a3)).snd).snd).snd).snd).fst, ()), ()), ((), ()), ((), a0, (spDn IntKind.i64 8 a2 (spDn IntKind.i64 8 a2 (spDn IntKind.i64 8 a2 (spDn IntKind.i16 2 a2 (spDn IntKind.i32 4 a2 (a1, a3)).snd).snd).snd).snd).snd.fst, ()), (a2, (spDn IntKind.i64 8 a2 (spDn IntKind.i64 8 a2 (spDn IntKind.i64 8 a2 (spDn IntKind.i16 2 a2 (spDn IntKind.i32 4 a2 (a1, a3)).snd).snd).snd).snd).snd.snd, ()), ())) else none else some (Out.ret ((((spDn IntKind.i32 4 a2 (a1, a3)).fst, (spDn IntKind.i16 2 a2 (spDn IntKind.i32 4 a2 (a1, a3)).snd).fst, (spDn IntKind.i64 8 a2 (spDn IntKind.i16 2 a2 (spDn IntKind.i32 4 a2 (a1, a3)).snd).snd).fst, (spDn IntKind.i64 8 a2 (spDn IntKind.i64 8 a2 (spDn IntKind.i16 2 a2 (spDn IntKind.i32 4 a2 (a1, a3)).snd).snd).snd).fst, 0, ()), ()), ((), ()), ((), a0, (spDn IntKind.i64 8 a2 (spDn IntKind.i64 8 a2 (spDn IntKind.i16 2 a2 (spDn IntKind.i32 4 a2 (a1, a3)).snd).snd).snd).snd.fst, ()), (a2, (spDn IntKind.i64 8 a2 (spDn IntKind.i64 8 a2 (spDn IntKind.i16 2 a2 (spDn IntKind.i32 4 a2 (a1, a3)).snd).snd).snd).snd.snd, ()), ())) else none else bif spDHas a0 3 3 (spDn IntKind.i64 8 a2 (spDn IntKind.i16 2 a2 (spDn IntKind.i32 4 a2 (a1, a3)).snd).snd).snd.fst then bif spDok a2 (spDn IntKind.i64 8 a2 (spDn IntKind.i16 2 a2 (spDn IntKind.i32 4 a2 (a1, a3)).snd).snd).snd.snd then some (Out.ret ((((spDn IntKind.i32 4 a2 (a1, a3)).fst, (spDn IntKind.i16 2 a2 (spDn IntKind.i32 4 a2 (a1, a3)).snd).fst, (spDn IntKind.i64 8 a2 (spDn IntKind.i16 2 a2 (spDn IntKind.i32 4 a2 (a1, a3)).snd).snd).fst, 0, (spDn IntKind.i64 8 a2 (spDn IntKind.i64 8 a2 (spDn IntKind.i16 2 a2 (spDn IntKind.i32 4 a2 (a1, a3)).snd).snd).snd).fst, ()), ()), ((), ()), ((), a0, (spDn IntKind.i64 8 a2 (spDn IntKind.i64 8 a2 (spDn IntKind.i16 2 a2 (spDn IntKind.i32 4 a2 (a1, a3)).snd).snd).snd).snd.fst, ()), (a2, (spDn IntKind.i64 8 a2 (spDn IntKind.i64 8 a2 (spDn IntKind.i16 2 a2 (spDn IntKind.i32 4 a2 (a1, a3)).snd).snd).snd).snd.snd, ()), ())) else none else some (Out.ret ((((spDn IntKind.i32 4 a2 (a1, a3)).fst, (spDn IntKind.i16 2 a2 (spDn IntKind.i32 4 a2 (a1, a3)).snd).fst, (spDn IntKind.i64 8 a2 (spDn IntKind.i16 2 a2 (spDn IntKind.i32 4 a2 (a1, a3)).snd).snd).fst, 0, 0, ()), ()), ((), ()), ((), a0, (spDn IntKind.i64 8 a2 (spDn IntKind.i16 2 a2 (spDn IntKind.i32 4 a2 (a1, a3)).snd).snd).snd.fst, ()), (a2, (spDn IntKind.i64 8 a2 (spDn IntKind.i16 2 a2 (spDn IntKind.i32 4 a2 (a1, a3)).snd).snd).snd.snd, ()), ())) else none else none else none
theorem runwDone (a0 : Int) (a1 : Int) (a2 : List Int) (a3 : Int) : Io.run tt hdwDone dr lpwDone iowDone Go.Proofs.Tryz.f75 (((), ()), ((), ()), ((), a0, a1, ()), (a2, a3, ()), ()) = bodywDone a0 a1 a2 a3 := by kernel_rfl
theorem okwDone : HcOk prog 75 (ioHd iowDone FwDone) := by
  refine fn_sound (n := 400) hm (cs := cswDone) (.cons okdI32 (.cons okdI16 (.cons okdI64 (.cons okdHas .nil)))) (lp := lpwDone) (fn := Go.Proofs.Tryz.f75) (by kernel_rfl) (by kernel_rfl) (by kernel_rfl) iowDone (.done (by kernel_rfl)) FwDone ?_
  rintro ⟨⟨⟨⟩, ⟨⟩⟩, ⟨⟨⟩, ⟨⟩⟩, ⟨⟨⟩, (v : Int), (e : Int), ⟨⟩⟩, ⟨(b : List Int), (p : Int), ⟨⟩⟩, ⟨⟩⟩ out hw ho
  obtain ⟨hg, ho⟩ := Tr.guard ho
  have hg : spDok b p = true := hg
  cases ho
  refine (runwDone v e b p).trans ?_
  unfold bodywDone
  show _ = some (Out.ret (((spDDone v b (e, p)).1, ()), decOut1 v b (spDDone v b (e, p)).2))
  unfold spDDone
  have g1 := spDn_ok .i32 4 (s := (e, p)) hg
  have g2 := spDn_ok .i16 2 g1
  have g3 := spDn_ok .i64 8 g2
  refine (bif_true hg _ _).trans ?_
  refine (bif_true g1 _ _).trans ?_
  refine (bif_true g2 _ _).trans ?_
  show (bif spDHas v 2 3 (spD3 b (e, p)).1 then _ else _) = _
  have g4 : spDok b (spD3 b (e, p)).2 = true := g3
  cases h2 : spDHas v 2 3 (spD3 b (e, p)).1
  · have e2 : spDHasN .i64 8 v 2 3 b (spD3 b (e, p)) = (0, spD3 b (e, p)) := by unfold spDHasN; rw [if_neg (by rw [h2]; decide)]
    rw [e2]
    show (bif spDHas v 3 3 (spD3 b (e, p)).1 then _ else _) = _
    cases h3 : spDHas v 3 3 (spD3 b (e, p)).1
    · have e3 : spDHasN .i64 8 v 3 3 b (spD3 b (e, p)) = (0, spD3 b (e, p)) := by unfold spDHasN; rw [if_neg (by rw [h3]; decide)]
      rw [e3]
      rfl
    · have e3 : spDHasN .i64 8 v 3 3 b (spD3 b (e, p)) = spDn .i64 8 b (spD3 b (e, p)) := by unfold spDHasN; rw [if_pos h3]
      rw [e3]
      exact bif_true g4 _ _
  · have e2 : spDHasN .i64 8 v 2 3 b (spD3 b (e, p)) = spDn .i64 8 b (spD3 b (e, p)) := by unfold spDHasN; rw [if_pos h2]
    rw [e2]
    refine (bif_true g4 _ _).trans ?_
    have g5 := spDn_ok .i64 8 g4
    show (bif spDHas v 3 3 (spDn .i64 8 b (spD3 b (e, p))).2.1 then _ else _) = _
    cases h3 : spDHas v 3 3 (spDn .i64 8 b (spD3 b (e, p))).2.1
    · have e3 : spDHasN .i64 8 v 3 3 b (spDn .i64 8 b (spD3 b (e, p))).2 = (0, (spDn .i64 8 b (spD3 b (e, p))).2) := by unfold spDHasN; rw [if_neg (by rw [h3]; decide)]
      rw [e3]
      rfl
    · have e3 : spDHasN .i64 8 v 3 3 b (spDn .i64 8 b (spD3 b (e, p))).2 = spDn .i64 8 b (spDn .i64 8 b (spD3 b (e, p))).2 := by unfold spDHasN; rw [if_pos h3]
      rw [e3]
      exact bif_true g5 _ _
@[irreducible] noncomputable def spDDones (v : Int) (b : List Int) (s : DeS) : List tDone.den × DeS := spList (spDDone v b) b s
theorem spDDones_ok {v : Int} {b : List Int} {s : DeS} (h : spDok b s.2 = true) : spDok b (spDDones v b s).2.2 = true := by
  unfold spDDones
  exact spList_ok (fun s h => spDDone_ok h) h
abbrev iowDones : Io := ⟨[.ptr 0 0, .fnc 75 false [2]], oDecC, [], [.dat (.sl 105 tDone) false false], none⟩
def FwDones (d : iowDones.In) : Tr iowDones.Res := .ite (spDok d.2.2.1.1 d.2.2.1.2.1) (.ret (.ret (((spDDones d.2.1.2.1 d.2.2.1.1 (decStC d.2)).1, ()), decOutC d.2.1.2.1 d.2.2.1.1 (spDDones d.2.1.2.1 d.2.2.1.1 (decStC d.2)).2))) .no
abbrev cswDones : List (Nat × Hc) := [(64, ioHd iodI32 FdI32), (75, ioHd iowDone FwDone)]
def hdwDones : Hd := hdT cswDones
abbrev lowDones_10 : Lo := ⟨⟨[.one (.ptr 0 0), .one (.fnp 75 false [2]), .any, .any, .any, .one (.hol (.int IntKind.i32)), .one (.onl 105 tDone 19), .one (.hol (.int IntKind.i32)), .any, .any, .any, .any, .any, .any, .any, .any, .any, .any, .any, .any, .any, .any, .any, .any, .any, .any, .any, .any, .any, .any, .any, .any, .any, .any, .any, .any, .any, .any, .any, .any, .any, .any, .any, .any, .any, .any], [some [.ptr 1 0, .hol (.int IntKind.i64), .hol (.int IntKind.i64)], some [.hol (.sl 5 (Ty.int IntKind.u8)), .hol (.int IntKind.i64)], some [.ptr 0 0]]⟩, [(.exit 1, ⟨[.any, .any, .any, .any, .any, .any, .one (.onl 105 tDone 19), .any, .any, .any, .any, .any, .any, .any, .any, .any, .any, .any, .any, .any, .any, .any, .any, .any, .any, .any, .any, .any, .any, .any, .any, .any, .any, .any, .any, .any, .any, .any, .any, .any, .any, .any, .any, .any, .any, .any], [some [.ptr 1 0, .hol (.int IntKind.i64), .hol (.int IntKind.i64)], some [.hol (.sl 5 (Ty.int IntKind.u8)), .hol (.int IntKind.i64)], some [.ptr 0 0]]⟩)]⟩
-- FwDones_10 : lowDones_10.st.den → Tr (DenX lowDones_10.xs) | ((h4, (h5, (h6, ()))), ((h7, (h8, ())), ((h9, (h10, ())), ((), ()))))
def FwDones_10 (d : lowDones_10.st.den) : Tr (DenX lowDones_10.xs) :=
  .ite (decide (d.1.2.2.1 = 0) && (decide (d.1.2.1.length = 0) && (spDok d.2.2.1.1 d.2.2.1.2.1 && (decide (d.1.1 ≤ (16 : Int)) || decide (d.2.1.2.1 ≠ 0))))) (.ret (.ret ((), (((spRep (spDDone d.2.1.1 d.2.2.1.1) d.1.1.toNat (d.2.1.2.1, d.2.2.1.2.1)).1, ()), decOutB d.2.1.1 d.2.2.1.1 (spRep (spDDone d.2.1.1 d.2.2.1.1) d.1.1.toNat (d.2.1.2.1, d.2.2.1.2.1)).2)))) .no
def lpwDones : Lp := lpT [(10, loHd lowDones_10 FwDones_10)]
def stepwDones_10 {R : Type} (h4 : Int) (h5 : List tDone.den) (h6 : Int) (h7 : Int) (h8 : Int) (h9 : List Int) (h10 : Int) (next : Int → List tDone.den → Int → Int → Int → List Int → Int → Option R) (out : DenX lowDones_10.xs → Option R) : Option R := bif decide (h6 < h4) then bif h8 == 0 then bif spDok h9 h10 then bif decide (h5.length + 1 ≤ 4294967296) then next (h4) (h5 ++ [(spDDone h7 h9 (h8, h10)).fst]) (IntKind.i32.wrap (h6 + 1)) (h7) ((spDDone h7 h9 (h8, h10)).snd.fst) (h9) ((spDDone h7 h9 (h8, h10)).snd.snd) else none else none else out (.ret ((), ((h5, ()), ((h7, (h8, ())), ((h9, (h10, ())), ((), ())))))) else out (.ret ((), ((h5, ()), ((h7, (h8, ())), ((h9, (h10, ())), ((), ()))))))
def itwDones_10 (n : Nat) (h4 : Int) (h5 : List tDone.den) (h6 : Int) (h7 : Int) (h8 : Int) (h9 : List Int) (h10 : Int) : Option (DenX lowDones_10.xs) := lpN tt hdwDones dr lpwDones 3 Go.Proofs.Tryz.f74 (topL Go.Proofs.Tryz.f74 0) n (lowDones_10.st.mk' ((h4, (h5, (h6, ()))), ((h7, (h8, ())), ((h9, (h10, ())), ((), ()))))) (decX lowDones_10.xs)
theorem slwDones_10 (n : Nat) (h4 : Int) (h5 : List tDone.den) (h6 : Int) (h7 : Int) (h8 : Int) (h9 : List Int) (h10 : Int) : itwDones_10 (n + 1) h4 h5 h6 h7 h8 h9 h10 = stepwDones_10 h4 h5 h6 h7 h8 h9 h10 (itwDones_10 n) some := by kernel_rfl
theorem loopwDones (n v : Int) (b : List Int) : ∀ (k j : Nat) (xs : List tDone.den) (s : DeS), n.toNat < j + k → j ≤ n.toNat → xs.length = j → spDok b s.2 = true → (s.1 = 0 → n ≤ 16) →
    itwDones_10 k n xs j v s.1 b s.2 = some (.ret ((), ((xs ++ (spRep (spDDone v b) (n.toNat - j) s).1, ()), decOutB v b (spRep (spDDone v b) (n.toNat - j) s).2))) := by
  intro k
  induction k with
  | zero => intro j xs s h; omega
  | succ k ih =>
    intro j xs s h1 h2 h3 h4 h5
    rw [slwDones_10]
    unfold stepwDones_10
    by_cases hj : (j : Int) < n
    · refine (bif_true (by simpa using hj) _ _).trans ?_
      obtain ⟨m, hm⟩ : ∃ m, n.toNat - j = m + 1 := ⟨n.toNat - j - 1, by omega⟩
      rw [hm]
      by_cases he : s.1 = 0
      · refine (bif_true (by simpa using he) _ _).trans ?_
        have hn := h5 he
        refine (bif_true h4 _ _).trans ?_
        refine (bif_true (decide_eq_true (show xs.length + 1 ≤ 4294967296 by omega)) _ _).trans ?_
        have hw : IntKind.i32.wrap ((j : Int) + 1) = ((j + 1 : Nat) : Int) := wrap_id (by simp [inR, IntKind.min, IntKind.max, IntKind.signed, IntKind.bits]; omega)
        rw [hw]
        refine (ih (j + 1) (xs ++ [(spDDone v b s).1]) (spDDone v b s).2 (by omega) (by omega) (by simp [h3]) (spDDone_ok h4) (fun _ => hn)).trans ?_
        rw [show n.toNat - (j + 1) = m by omega, spRep, if_pos he]
        simp
      · refine (bif_false (by simpa using he) _ _).trans ?_
        rw [spRep, if_neg he]
        simp
    · refine (bif_false (by simpa using hj) _ _).trans ?_
      rw [show n.toNat - j = 0 by omega, spRep]
      simp
def bodywDones (a0 : Int) (a1 : Int) (a2 : List Int) (a3 : Int) : Option iowDones.Res := bif spDok a2 a3 then bif (spDn IntKind.i32 4 a2 (a1, a3)).snd.fst != 0 then (FwDones_10 (((spDn IntKind.i32 4 a2 (a1, a3)).fst, ([], (0, ()))), ((a0, ((spDn IntKind.i32 4 a2 (a1, a3)).snd.fst, ())), ((a2, ((spDn IntKind.i32 4 a2 (a1, a3)).snd.snd, ())), ((), ()))))).run fun y => match y with | .ret ((), ((x28, ()), (x29, x30, ()), (x31, x32, ()), (), ())) => (some (Out.ret ((x28, ()), ((), x29, x30, ()), (x31, x32, ()), ((), ()), ()))) else bif decide ((spDn IntKind.i32 4 a2 (a1, a3)).fst < 0) then (FwDones_10 (((spDn IntKind.i32 4 a2 (a1, a3)).fst, ([], (0, ()))), ((a0, (5, ())), ((a2, ((spDn IntKind.i32 4 a2 (a1, a3)).snd.snd, ())), ((), ()))))).run fun y => match y with | .ret ((), ((x40, ()), (x41, x42, ()), (x43, x44, ()), (), ())) => (some (Out.ret ((x40, ()), ((), x41, x42, ()), (x43, x44, ()), ((), ()), ()))) else bif decide (16 < (spDn IntKind.i32 4 a2 (a1, a3)).fst) then (FwDones_10 (((spDn IntKind.i32 4 a2 (a1, a3)).fst, ([], (0, ()))), ((a0, (9, ())), ((a2, ((spDn IntKind.i32 4 a2 (a1, a3)).snd.snd, ())), ((), ()))))).run fun y => match y with | .ret ((), ((x52, ()), (x53, x54, ()), (x55, x56, ()), (), ())) => (some (Out.ret ((x52, ()), ((), x53, x54, ()), (x55, x56, ()), ((), ()), ()))) else (FwDones_10 (((spDn IntKind.i32 4 a2 (a1, a3)).fst, ([], (0, ()))), ((a0, ((spDn IntKind.i32 4 a2 (a1, a3)).snd.fst, ())), ((a2, ((spDn IntKind.i32 4 a2 (a1, a3)).snd.snd, ())), ((), ()))))).run fun y => match y with | .ret ((), ((x64, ()), (x65, x66, ()), (x67, x68, ()), (), ())) => (some (Out.ret ((x64, ()), ((), x65, x66, ()), (x67, x68, ()), ((), ()), ()))) else none
theorem runwDones (a0 : Int) (a1 : Int) (a2 : List Int) (a3 : Int) : Io.run tt hdwDones dr lpwDones iowDones Go.Proofs.Tryz.f74 (((), (), ()), ((), a0, a1, ()), (a2, a3, ()), ((), ()), ()) = bodywDones a0 a1 a2 a3 := by kernel_rfl
theorem okwDones : HcOk prog 74 (ioHd iowDones FwDones) := by
  refine fn_sound (n := 400) hm (cs := cswDones) (.cons okdI32 (.cons okwDone .nil)) (lp := lpwDones) (fn := Go.Proofs.Tryz.f74) (by kernel_rfl) (by kernel_rfl) (by kernel_rfl) iowDones (.step (h0 := loHd lowDones_10 FwDones_10) (by kernel_rfl) (loop_sound (n := 400) hm (cs := cswDones) (.cons okdI32 (.cons okwDone .nil)) (lp := lpwDones) (fn := Go.Proofs.Tryz.f74) (.done (by kernel_rfl)) lowDones_10 FwDones_10 ?_) (.done (by kernel_rfl))) FwDones ?_
  · rintro ⟨⟨(n : Int), (xs : List tDone.den), (i : Int), ⟨⟩⟩, ⟨⟨(v : Int), (e : Int), ⟨⟩⟩, ⟨(b : List Int), (p : Int), ⟨⟩⟩, ⟨⟨⟩, ⟨⟩⟩⟩⟩ y hw hy
    obtain ⟨hg, hy⟩ := Tr.guard hy
    simp only [Bool.and_eq_true, decide_eq_true_eq, Bool.or_eq_true] at hg
    obtain ⟨h1, h2, h3, h4⟩ := hg
    have h1 : i = 0 := h1
    have h2 : xs = [] := List.eq_nil_of_length_eq_zero h2
    have h3 : spDok b p = true := h3
    have h4 : n ≤ 16 ∨ e ≠ 0 := h4
    subst h1
    subst h2
    refine ⟨n.toNat + 1, (loopwDones n v b (n.toNat + 1) 0 [] (e, p) (by omega) (by omega) rfl h3 (fun he => h4.resolve_right (fun h => h he))).trans ?_⟩
    rw [← hy]; rfl
  · rintro ⟨⟨⟨⟩, ⟨⟩, ⟨⟩⟩, ⟨⟨⟩, (v : Int), (e : Int), ⟨⟩⟩, ⟨(b : List Int), (p : Int), ⟨⟩⟩, ⟨⟨⟩, ⟨⟩⟩, ⟨⟩⟩ out hw ho
    obtain ⟨hg, ho⟩ := Tr.guard ho
    have hg : spDok b p = true := hg
    cases ho
    refine (runwDones v e b p).trans ?_
    unfold bodywDones
    show _ = some (Out.ret (((spDDones v b (e, p)).1, ()), decOutC v b (spDDones v b (e, p)).2))
    unfold spDDones spList
    refine (bif_true hg _ _).trans ?_
    have hr : spDok b (spDn .i32 4 b (e, p)).2.2 = true := spDn_ok .i32 4 (s := (e, p)) hg
    generalize spDn .i32 4 b (e, p) = r at hr ⊢
    obtain ⟨n, e1, q⟩ := r
    have hr : spDok b q = true := hr
    have key : ∀ e' : Int, (e' = 0 → n ≤ 16) → FwDones_10 ((n, ([], (0, ()))), ((v, (e', ())), ((b, (q, ())), ((), ())))) = .ite true (.ret (.ret ((), (((spRep (spDDone v b) n.toNat (e', q)).1, ()), decOutB v b (spRep (spDDone v b) n.toNat (e', q)).2)))) .no := by
      intro e' he
      refine congrArg (fun c => Tr.ite c _ _) ?_
      show (decide ((0 : Int) = 0) && (decide (([] : List tDone.den).length = 0) && (spDok b q && (decide (n ≤ 16) || decide (e' ≠ 0))))) = true
      rw [hr]
      by_cases h : e' = 0
      · simp [he h]
      · simp [h]
    unfold spLen
    show (bif e1 != 0 then _ else _) = _
    by_cases h1 : e1 = 0
    · refine (bif_false (by simpa using h1) _ _).trans ?_
      show (bif decide (n < 0) then _ else _) = _
      rw [if_pos h1]
      by_cases h2 : n < 0
      · refine (bif_true (by simpa using h2) _ _).trans ?_
        show (FwDones_10 ((n, ([], (0, ()))), ((v, (5, ())), ((b, (q, ())), ((), ()))))).run _ = _
        rw [key 5 (by omega), if_pos h2]
        rfl
      · refine (bif_false (by simpa using h2) _ _).trans ?_
        show (bif decide (16 < n) then _ else _) = _
        rw [if_neg h2]
        by_cases h3 : 16 < n
        · refine (bif_true (by simpa using h3) _ _).trans ?_
          show (FwDones_10 ((n, ([], (0, ()))), ((v, (9, ())), ((b, (q, ())), ((), ()))))).run _ = _
          rw [key 9 (by omega), if_pos h3]
          rfl
        · refine (bif_false (by simpa using h3) _ _).trans ?_
          show (FwDones_10 ((n, ([], (0, ()))), ((v, (e1, ())), ((b, (q, ())), ((), ()))))).run _ = _
          rw [key e1 (by omega), if_neg h3]
          rfl
    · refine (bif_true (by simpa using h1) _ _).trans ?_
      show (FwDones_10 ((n, ([], (0, ()))), ((v, (e1, ())), ((b, (q, ())), ((), ()))))).run _ = _
      rw [key e1 (fun h => absurd h h1), if_neg h1]
      rfl
@[irreducible] noncomputable def spDGone (v : Int) (b : List Int) (s : DeS) : tGone.den × DeS := (((spDStr b s).1, ((spDDones v b (spDStr b s).2).1, ())), (spDDones v b (spDStr b s).2).2)
theorem spDGone_ok {v : Int} {b : List Int} {s : DeS} (h : spDok b s.2 = true) : spDok b (spDGone v b s).2.2 = true := by
  unfold spDGone
  exact spDDones_ok (spDStr_ok h)
abbrev iowGone : Io := ⟨[.ptr 0 0], oDec1, [], [.dat tGone true false], none⟩
def FwGone (d : iowGone.In) : Tr iowGone.Res := .ite (spDok d.2.2.2.1.1 d.2.2.2.1.2.1) (.ret (.ret (((spDGone d.2.2.1.2.1 d.2.2.2.1.1 (decSt d.2.2)).1, ()), decOut1 d.2.2.1.2.1 d.2.2.2.1.1 (spDGone d.2.2.1.2.1 d.2.2.2.1.1 (decSt d.2.2)).2))) .no
abbrev cswGone : List (Nat × Hc) := [(67, ioHd iodStr FdStr), (74, ioHd iowDones FwDones)]
def hdwGone : Hd := hdT cswGone
def lpwGone : Lp := lpT []
def bodywGone (a0 : Int) (a1 : Int) (a2 : List Int) (a3 : Int) : Option iowGone.Res := bif spDok a2 a3 then bif spDok a2 (spDStr a2 (a1, a3)).snd.snd then some (Out.ret ((((spDStr a2 (a1, a3)).fst, (spDDones a0 a2 (spDStr a2 (a1, a3)).snd).fst, ()), ()), ((), ()), ((), a0, (spDDones a0 a2 (spDStr a2 (a1, a3)).snd).snd.fst, ()), (a2, (spDDones a0 a2 (spDStr a2 (a1, a3)).snd).snd.snd, ()), ())) else none else none
theorem runwGone (a0 : Int) (a1 : Int) (a2 : List Int) (a3 : Int) : Io.run tt hdwGone dr lpwGone iowGone Go.Proofs.Tryz.f73 (((), ()), ((), ()), ((), a0, a1, ()), (a2, a3, ()), ()) = bodywGone a0 a1 a2 a3 := by kernel_rfl
theorem okwGone : HcOk prog 73 (ioHd iowGone FwGone) := by
  refine fn_sound (n := 400) hm (cs := cswGone) (.cons okdStr (.cons okwDones .nil)) (lp := lpwGone) (fn := Go.Proofs.Tryz.f73) (by kernel_rfl) (by kernel_rfl) (by kernel_rfl) iowGone (.done (by kernel_rfl)) FwGone ?_
  rintro ⟨⟨⟨⟩, ⟨⟩⟩, ⟨⟨⟩, ⟨⟩⟩, ⟨⟨⟩, (v : Int), (e : Int), ⟨⟩⟩, ⟨(b : List Int), (p : Int), ⟨⟩⟩, ⟨⟩⟩ out hw ho
  obtain ⟨hg, ho⟩ := Tr.guard ho
  have hg : spDok b p = true := hg
  cases ho
  refine (runwGone v e b p).trans ?_
  unfold bodywGone
  show _ = some (Out.ret (((spDGone v b (e, p)).1, ()), decOut1 v b (spDGone v b (e, p)).2))
  unfold spDGone
  refine (bif_true hg _ _).trans ?_
  exact bif_true (spDStr_ok (s := (e, p)) hg) _ _
@[irreducible] noncomputable def spDGones (v : Int) (b : List Int) (s : DeS) : List tGone.den × DeS := spList (spDGone v b) b s
theorem spDGones_ok {v : Int} {b : List Int} {s : DeS} (h : spDok b s.2 = true) : spDok b (spDGones v b s).2.2 = true := by
  unfold spDGones
  exact spList_ok (fun s h => spDGone_ok h) h
abbrev iowGones : Io := ⟨[.ptr 0 0, .fnc 73 false [2]], oDecC, [], [.dat (.sl 103 tGone) false false], none⟩
def FwGones (d : iowGones.In) : Tr iowGones.Res := .ite (spDok d.2.2.1.1 d.2.2.1.2.1) (.ret (.ret (((spDGones d.2.1.2.1 d.2.2.1.1 (decStC d.2)).1, ()), decOutC d.2.1.2.1 d.2.2.1.1 (spDGones d.2.1.2.1 d.2.2.1.1 (decStC d.2)).2))) .no
abbrev cswGones : List (Nat × Hc) := [(64, ioHd iodI32 FdI32), (73, ioHd iowGone FwGone)]
def hdwGones : Hd := hdT cswGones
abbrev lowGones_10 : Lo := ⟨⟨[.one (.ptr 0 0), .one (.fnp 73 false [2]), .any, .any, .any, .one (.hol (.int IntKind.i32)), .one (.onl 103 tGone 19), .one (.hol (.int IntKind.i32)), .any, .any, .any, .any, .any, .any, .any, .any, .any, .any, .any, .any, .any, .any, .any, .any, .any, .any, .any, .any, .any, .any, .any, .any, .any, .any, .any, .any, .any, .any, .any, .any, .any, .any, .any, .any, .any, .any], [some [.ptr 1 0, .hol (.int IntKind.i64), .hol (.int IntKind.i64)], some [.hol (.sl 5 (Ty.int IntKind.u8)), .hol (.int IntKind.i64)], some [.ptr 0 0]]⟩, [(.exit 1, ⟨[.any, .any, .any, .any, .any, .any, .one (.onl 103 tGone 19), .any, .any, .any, .any, .any, .any, .any, .any, .any, .any, .any, .any, .any, .any, .any, .any, .any, .any, .any, .any, .any, .any, .any, .any, .any, .any, .any, .any, .any, .any, .any, .any, .any, .any, .any, .any, .any, .any, .any], [some [.ptr 1 0, .hol (.int IntKind.i64), .hol (.int IntKind.i64)], some [.hol (.sl 5 (Ty.int IntKind.u8)), .hol (.int IntKind.i64)], some [.ptr 0 0]]⟩)]⟩
-- FwGones_10 : lowGones_10.st.den → Tr (DenX lowGones_10.xs) | ((h4, (h5, (h6, ()))), ((h7, (h8, ())), ((h9, (h10, ())), ((), ()))))
def FwGones_10 (d : lowGones_10.st.den) : Tr (DenX lowGones_10.xs) :=
  .ite (decide (d.1.2.2.1 = 0) && (decide (d.1.2.1.length = 0) && (spDok d.2.2.1.1 d.2.2.1.2.1 && (decide (d.1.1 ≤ (16 : Int)) || decide (d.2.1.2.1 ≠ 0))))) (.ret (.ret ((), (((spRep (spDGone d.2.1.1 d.2.2.1.1) d.1.1.toNat (d.2.1.2.1, d.2.2.1.2.1)).1, ()), decOutB d.2.1.1 d.2.2.1.1 (spRep (spDGone d.2.1.1 d.2.2.1.1) d.1.1.toNat (d.2.1.2.1, d.2.2.1.2.1)).2)))) .no
def lpwGones : Lp := lpT [(10, loHd lowGones_10 FwGones_10)]
def stepwGones_10 {R : Type} (h4 : Int) (h5 : List tGone.den) (h6 : Int) (h7 : Int) (h8 : Int) (h9 : List Int) (h10 : Int) (next : Int → List tGone.den → Int → Int → Int → List Int → Int → Option R) (out : DenX lowGones_10.xs → Option R) : Option R := bif decide (h6 < h4) then bif h8 == 0 then bif spDok h9 h10 then bif decide (h5.length + 1 ≤ 4294967296) then next (h4) (h5 ++ [(spDGone h7 h9 (h8, h10)).fst]) (IntKind.i32.wrap (h6 + 1)) (h7) ((spDGone h7 h9 (h8, h10)).snd.fst) (h9) ((spDGone h7 h9 (h8, h10)).snd.snd) else none else none else out (.ret ((), ((h5, ()), ((h7, (h8, ())), ((h9, (h10, ())), ((), ())))))) else out (.ret ((), ((h5, ()), ((h7, (h8, ())), ((h9, (h10, ())), ((), ()))))))
def itwGones_10 (n : Nat) (h4 : Int) (h5 : List tGone.den) (h6 : Int) (h7 : Int) (h8 : Int) (h9 : List Int) (h10 : Int) : Option (DenX lowGones_10.xs) := lpN tt hdwGones dr lpwGones 3 Go.Proofs.Tryz.f72 (topL Go.Proofs.Tryz.f72 0) n (lowGones_10.st.mk' ((h4, (h5, (h6, ()))), ((h7, (h8, ())), ((h9, (h10, ())), ((), ()))))) (decX lowGones_10.xs)
theorem slwGones_10 (n : Nat) (h4 : Int) (h5 : List tGone.den) (h6 : Int) (h7 : Int) (h8 : Int) (h9 : List Int) (h10 : Int) : itwGones_10 (n + 1) h4 h5 h6 h7 h8 h9 h10 = stepwGones_10 h4 h5 h6 h7 h8 h9 h10 (itwGones_10 n) some := by kernel_rfl
theorem loopwGones (n v : Int) (b : List Int) : ∀ (k j : Nat) (xs : List tGone.den) (s : DeS), n.toNat < j + k → j ≤ n.toNat → xs.length = j → spDok b s.2 = true → (s.1 = 0 → n ≤ 16) →
    itwGones_10 k n xs j v s.1 b s.2 = some (.ret ((), ((xs ++ (spRep (spDGone v b) (n.toNat - j) s).1, ()), decOutB v b (spRep (spDGone v b) (n.toNat - j) s).2))) := by
  intro k
  induction k with
  | zero => intro j xs s h; omega
  | succ k ih =>
    intro j xs s h1 h2 h3 h4 h5
    rw [slwGones_10]
    unfold stepwGones_10
    by_cases hj : (j : Int) < n
    · refine (bif_true (by simpa using hj) _ _).trans ?_
      obtain ⟨m, hm⟩ : ∃ m, n.toNat - j = m + 1 := ⟨n.toNat - j - 1, by omega⟩
      rw [hm]
      by_cases he : s.1 = 0
      · refine (bif_true (by simpa using he) _ _).trans ?_
        have hn := h5 he
        refine (bif_true h4 _ _).trans ?_
        refine (bif_true (decide_eq_true (show xs.length + 1 ≤ 4294967296 by omega)) _ _).trans ?_
        have hw : IntKind.i32.wrap ((j : Int) + 1) = ((j + 1 : Nat) : Int) := wrap_id (by simp [inR, IntKind.min, IntKind.max, IntKind.signed, IntKind.bits]; omega)
        rw [hw]
        refine (ih (j + 1) (xs ++ [(spDGone v b s).1]) (spDGone v b s).2 (by omega) (by omega) (by simp [h3]) (spDGone_ok h4) (fun _ => hn)).trans ?_
        rw [show n.toNat - (j + 1) = m by omega, spRep, if_pos he]
        simp
      · refine (bif_false (by simpa using he) _ _).trans ?_
        rw [spRep, if_neg he]
        simp
    · refine (bif_false (by simpa using hj) _ _).trans ?_
      rw [show n.toNat - j = 0 by omega, spRep]
      simp
def bodywGones (a0 : Int) (a1 : Int) (a2 : List Int) (a3 : Int) : Option iowGones.Res := bif spDok a2 a3 then bif (spDn IntKind.i32 4 a2 (a1, a3)).snd.fst != 0 then (FwGones_10 (((spDn IntKind.i32 4 a2 (a1, a3)).fst, ([], (0, ()))), ((a0, ((spDn IntKind.i32 4 a2 (a1, a3)).snd.fst, ())), ((a2, ((spDn IntKind.i32 4 a2 (a1, a3)).snd.snd, ())), ((), ()))))).run fun y => match y with | .ret ((), ((x28, ()), (x29, x30, ()), (x31, x32, ()), (), ())) => (some (Out.ret ((x28, ()), ((), x29, x30, ()), (x31, x32, ()), ((), ()), ()))) else bif decide ((spDn IntKind.i32 4 a2 (a1, a3)).fst < 0) then (FwGones_10 (((spDn IntKind.i32 4 a2 (a1, a3)).fst, ([], (0, ()))), ((a0, (5, ())), ((a2, ((spDn IntKind.i32 4 a2 (a1, a3)).snd.snd, ())), ((), ()))))).run fun y => match y with | .ret ((), ((x40, ()), (x41, x42, ()), (x43, x44, ()), (), ())) => (some (Out.ret ((x40, ()), ((), x41, x42, ()), (x43, x44, ()), ((), ()), ()))) else bif decide (16 < (spDn IntKind.i32 4 a2 (a1, a3)).fst) then (FwGones_10 (((spDn IntKind.i32 4 a2 (a1, a3)).fst, ([], (0, ()))), ((a0, (9, ())), ((a2, ((spDn IntKind.i32 4 a2 (a1, a3)).snd.snd, ())), ((), ()))))).run fun y => match y with | .ret ((), ((x52, ()), (x53, x54, ()), (x55, x56, ()), (), ())) => (some (Out.ret ((x52, ()), ((), x53, x54, ()), (x55, x56, ()), ((), ()), ()))) else (FwGones_10 (((spDn IntKind.i32 4 a2 (a1, a3)).fst, ([], (0, ()))), ((a0, ((spDn IntKind.i32 4 a2 (a1, a3)).snd.fst, ())), ((a2, ((spDn IntKind.i32 4 a2 (a1, a3)).snd.snd, ())), ((), ()))))).run fun y => match y with | .ret ((), ((x64, ()), (x65, x66, ()), (x67, x68, ()), (), ())) => (some (Out.ret ((x64, ()), ((), x65, x66, ()), (x67, x68, ()), ((), ()), ()))) else none
theorem runwGones (a0 : Int) (a1 : Int) (a2 : List Int) (a3 : Int) : Io.run tt hdwGones dr lpwGones iowGones Go.Proofs.Tryz.f72 (((), (), ()), ((), a0, a1, ()), (a2, a3, ()), ((), ()), ()) = bodywGones a0 a1 a2 a3 := by kernel_rfl
theorem okwGones : HcOk prog 72 (ioHd iowGones FwGones) := by
  refine fn_sound (n := 400) hm (cs := cswGones) (.cons okdI32 (.cons okwGone .nil)) (lp := lpwGones) (fn := Go.Proofs.Tryz.f72) (by kernel_rfl) (by kernel_rfl) (by kernel_rfl) iowGones (.step (h0 := loHd lowGones_10 FwGones_10) (by kernel_rfl) (loop_sound (n := 400) hm (cs := cswGones) (.cons okdI32 (.cons okwGone .nil)) (lp := lpwGones) (fn := Go.Proofs.Tryz.f72) (.done (by kernel_rfl)) lowGones_10 FwGones_10 ?_) (.done (by kernel_rfl))) FwGones ?_
  · rintro ⟨⟨(n : Int), (xs : List tGone.den), (i : Int), ⟨⟩⟩, ⟨⟨(v : Int), (e : Int), ⟨⟩⟩, ⟨(b : List Int), (p : Int), ⟨⟩⟩, ⟨⟨⟩, ⟨⟩⟩⟩⟩ y hw hy
    obtain ⟨hg, hy⟩ := Tr.guard hy
    simp only [Bool.and_eq_true, decide_eq_true_eq, Bool.or_eq_true] at hg
    obtain ⟨h1, h2, h3, h4⟩ := hg
    have h1 : i = 0 := h1
    have h2 : xs = [] := List.eq_nil_of_length_eq_zero h2
    have h3 : spDok b p = true := h3
    have h4 : n ≤ 16 ∨ e ≠ 0 := h4
    subst h1
    subst h2
    refine ⟨n.toNat + 1, (loopwGones n v b (n.toNat + 1) 0 [] (e, p) (by omega) (by omega) rfl h3 (fun he => h4.resolve_right (fun h => h he))).trans ?_⟩
    rw [← hy]; rfl
  · rintro ⟨⟨⟨⟩, ⟨⟩, ⟨⟩⟩, ⟨⟨⟩, (v : Int), (e : Int), ⟨⟩⟩, ⟨(b : List Int), (p : Int), ⟨⟩⟩, ⟨⟨⟩, ⟨⟩⟩, ⟨⟩⟩ out hw ho
    obtain ⟨hg, ho⟩ := Tr.guard ho
    have hg : spDok b p = true := hg
    cases ho
    refine (runwGones v e b p).trans ?_
    unfold bodywGones
    show _ = some (Out.ret (((spDGones v b (e, p)).1, ()), decOutC v b (spDGones v b (e, p)).2))
    unfold spDGones spList
    refine (bif_true hg _ _).trans ?_
    have hr : spDok b (spDn .i32 4 b (e, p)).2.2 = true := spDn_ok .i32 4 (s := (e, p)) hg
    generalize spDn .i32 4 b (e, p) = r at hr ⊢
    obtain ⟨n, e1, q⟩ := r
    have hr : spDok b q = true := hr
    have key : ∀ e' : Int, (e' = 0 → n ≤ 16) → FwGones_10 ((n, ([], (0, ()))), ((v, (e', ())), ((b, (q, ())), ((), ())))) = .ite true (.ret (.ret ((), (((spRep (spDGone v b) n.toNat (e', q)).1, ()), decOutB v b (spRep (spDGone v b) n.toNat (e', q)).2)))) .no := by
      intro e' he
      refine congrArg (fun c => Tr.ite c _ _) ?_
      show (decide ((0 : Int) = 0) && (decide (([] : List tGone.den).length = 0) && (spDok b q && (decide (n ≤ 16) || decide (e' ≠ 0))))) = true
      rw [hr]
      by_cases h : e' = 0
      · simp [he h]
      · simp [h]
    unfold spLen
    show (bif e1 != 0 then _ else _) = _
    by_cases h1 : e1 = 0
    · refine (bif_false (by simpa using h1) _ _).trans ?_
      show (bif decide (n < 0) then _ else _) = _
      rw [if_pos h1]
      by_cases h2 : n < 0
      · refine (bif_true (by simpa using h2) _ _).trans ?_
        show (FwGones_10 ((n, ([], (0, ()))), ((v, (5, ())), ((b, (q, ())), ((), ()))))).run _ = _
        rw [key 5 (by omega), if_pos h2]
        rfl
      · refine (bif_false (by simpa using h2) _ _).trans ?_
        show (bif decide (16 < n) then _ else _) = _
        rw [if_neg h2]
        by_cases h3 : 16 < n
        · refine (bif_true (by simpa using h3) _ _).trans ?_
          show (FwGones_10 ((n, ([], (0, ()))), ((v, (9, ())), ((b, (q, ())), ((), ()))))).run _ = _
          rw [key 9 (by omega), if_pos h3]
          rfl
        · refine (bif_false (by simpa using h3) _ _).trans ?_
          show (FwGones_10 ((n, ([], (0, ()))), ((v, (e1, ())), ((b, (q, ())), ((), ()))))).run _ = _
          rw [key e1 (by omega), if_neg h3]
          rfl
    · refine (bif_true (by simpa using h1) _ _).trans ?_
      show (FwGones_10 ((n, ([], (0, ()))), ((v, (e1, ())), ((b, (q, ())), ((), ()))))).run _ = _
      rw [key e1 (fun h => absurd h h1), if_neg h1]
      rfl
abbrev iowGonesZ : Io := ⟨[.ptr 0 0, .fnc 73 false [1]], oDecCZ, [], [.dat (.sl 103 tGone) false false], none⟩
def FwGonesZ (d : iowGonesZ.In) : Tr iowGonesZ.Res := .ite (decide (d.2.1.2.2.1 ≠ 0)) (.ret (.ret ((([] : List tGone.den), ()), d.2))) .no
abbrev cswGonesZ : List (Nat × Hc) := [(64, orHd deadB (ioHd iodI32Z FdI32Z) (ioHd iodI32 FdI32))]
def hdwGonesZ : Hd := hdT cswGonesZ
abbrev lowGonesZ_10 : Lo := ⟨⟨[.one (.ptr 0 0), .one (.fnp 73 false [1]), .any, .any, .any, .one (.hol (.int IntKind.i32)), .one (.onl 103 tGone 17), .one (.hol (.int IntKind.i32)), .any, .any, .any, .any, .any, .any, .any, .any, .any, .any, .any, .any, .any, .any, .any, .any, .any, .any, .any, .any, .any, .any, .any, .any, .any, .any, .any, .any, .any, .any, .any, .any, .any, .any, .any, .any, .any, .any], [some [.nilp, .hol (.int IntKind.i64), .hol (.int IntKind.i64)], some [.ptr 0 0]]⟩, [(.exit 1, ⟨[.any, .any, .any, .any, .any, .any, .one (.onl 103 tGone 17), .any, .any, .any, .any, .any, .any, .any, .any, .any, .any, .any, .any, .any, .any, .any, .any, .any, .any, .any, .any, .any, .any, .any, .any, .any, .any, .any, .any, .any, .any, .any, .any, .any, .any, .any, .any, .any, .any, .any], [some [.nilp, .hol (.int IntKind.i64), .hol (.int IntKind.i64)], some [.ptr 0 0]]⟩)]⟩
-- FwGonesZ_10 : lowGonesZ_10.st.den → Tr (DenX lowGonesZ_10.xs) | ((h2, (h3, (h4, ()))), ((h5, (h6, ())), ((), ())))
def FwGonesZ_10 (d : lowGonesZ_10.st.den) : Tr (DenX lowGonesZ_10.xs) :=
  .ite (decide (d.2.1.2.1 ≠ 0)) (.ret (.ret ((), ((d.1.2.1, ()), d.2)))) .no
def lpwGonesZ : Lp := lpT [(10, loHd lowGonesZ_10 FwGonesZ_10)]
def stepwGonesZ_10 {R : Type} (h2 : Int) (h3 : List tGone.den) (h4 : Int) (h5 : Int) (h6 : Int) (next : Int → List tGone.den → Int → Int → Int → Option R) (out : DenX lowGonesZ_10.xs → Option R) : Option R := bif decide (h4 < h2) then bif h6 == 0 then none else out (.ret ((), ((h3, ()), ((h5, (h6, ())), ((), ()))))) else out (.ret ((), ((h3, ()), ((h5, (h6, ())), ((), ())))))
def itwGonesZ_10 (n : Nat) (h2 : Int) (h3 : List tGone.den) (h4 : Int) (h5 : Int) (h6 : Int) : Option (DenX lowGonesZ_10.xs) := lpN tt hdwGonesZ dr lpwGonesZ 2 Go.Proofs.Tryz.f72 (topL Go.Proofs.Tryz.f72 0) n (lowGonesZ_10.st.mk' ((h2, (h3, (h4, ()))), ((h5, (h6, ())), ((), ())))) (decX lowGonesZ_10.xs)
theorem slwGonesZ_10 (n : Nat) (h2 : Int) (h3 : List tGone.den) (h4 : Int) (h5 : Int) (h6 : Int) : itwGonesZ_10 (n + 1) h2 h3 h4 h5 h6 = stepwGonesZ_10 h2 h3 h4 h5 h6 (itwGonesZ_10 n) some := by kernel_rfl
def bodywGonesZ (a0 : Int) (a1 : Int) : Option iowGonesZ.Res := bif decide (a1 ≠ 0) then bif a1 != 0 then (FwGonesZ_10 ((0, ([], (0, ()))), ((a0, (a1, ())), ((), ())))).run fun y => match y with | .ret ((), ((x13, ()), (x14, x15, ()), (), ())) => (some (Out.ret ((x13, ()), ((), x14, x15, ()), ((), ()), ()))) else (FwGonesZ_10 ((0, ([], (0, ()))), ((a0, (a1, ())), ((), ())))).run fun y => match y with | .ret ((), ((x21, ()), (x22, x23, ()), (), ())) => (some (Out.ret ((x21, ()), ((), x22, x23, ()), ((), ()), ()))) else none
theorem runwGonesZ (a0 : Int) (a1 : Int) : Io.run tt hdwGonesZ dr lpwGonesZ iowGonesZ Go.Proofs.Tryz.f72 (((), (), ()), ((), a0, a1, ()), ((), ()), ()) = bodywGonesZ a0 a1 := by kernel_rfl
theorem okwGonesZ : HcOk prog 72 (ioHd iowGonesZ FwGonesZ) := by
  refine fn_sound (n := 400) hm (cs := cswGonesZ) (.cons (or_sound okdI32Z okdI32) .nil) (lp := lpwGonesZ) (fn := Go.Proofs.Tryz.f72) (by kernel_rfl) (by kernel_rfl) (by kernel_rfl) iowGonesZ (.step (h0 := loHd lowGonesZ_10 FwGonesZ_10) (by kernel_rfl) (loop_sound (n := 400) hm (cs := cswGonesZ) (.cons (or_sound okdI32Z okdI32) .nil) (lp := lpwGonesZ) (fn := Go.Proofs.Tryz.f72) (.done (by kernel_rfl)) lowGonesZ_10 FwGonesZ_10 ?_) (.done (by kernel_rfl))) FwGonesZ ?_
  · rintro ⟨⟨(n : Int), (xs : List tGone.den), (i : Int), ⟨⟩⟩, ⟨⟨(v : Int), (e : Int), ⟨⟩⟩, ⟨⟨⟩, ⟨⟩⟩⟩⟩ y hw hy
    obtain ⟨hg, hy⟩ := Tr.guard hy
    have hg : e ≠ 0 := of_decide_eq_true hg
    refine ⟨1, (slwGonesZ_10 0 n xs i v e).trans ?_⟩
    unfold stepwGonesZ_10
    rw [← hy]
    by_cases h : i < n
    · refine (bif_true (by simpa using h) _ _).trans ?_
      exact bif_false (by simpa using hg) _ _
    · exact bif_false (by simpa using h) _ _
  · rintro ⟨⟨⟨⟩, ⟨⟩, ⟨⟩⟩, ⟨⟨⟩, (v : Int), (e : Int), ⟨⟩⟩, ⟨⟨⟩, ⟨⟩⟩, ⟨⟩⟩ out hw ho
    obtain ⟨hg, ho⟩ := Tr.guard ho
    have hg : e ≠ 0 := of_decide_eq_true hg
    cases ho
    refine (runwGonesZ v e).trans ?_
    unfold bodywGonesZ
    have e1 : FwGonesZ_10 ((0, ([], (0, ()))), ((v, (e, ())), ((), ()))) = .ite true (.ret (.ret ((), ((([] : List tGone.den), ()), ((v, (e, ())), ((), ())))))) .no := congrArg (fun c => Tr.ite c _ _) (decide_eq_true hg)
    refine (bif_true (by simpa using hg) _ _).trans ?_
    refine (bif_true (by simpa using hg) _ _).trans ?_
    rw [e1]
    rfl
def spZRep : tRep.den := (([] : List tGone.den), (0, ()))
def spDRepB (v : Int) (b : List Int) : tRep.den × DeS :=
  (((spDGones v b (0, 0)).1, ((spDHasN .i32 4 v 1 3 b (spDGones v b (0, 0)).2).1, ())), (spDHasN .i32 4 v 1 3 b (spDGones v b (0, 0)).2).2)
def spDecRep (v : Int) (b : List Int) : tRep.den × Int := if 0 ≤ v ∧ v ≤ 3 ∧ (b.length : Int) ≤ 130048 then (if spDEnd b (spDRepB v b).2 = 0 then ((spDRepB v b).1, 0) else (spZRep, spDEnd b (spDRepB v b).2)) else (spZRep, spNewD v)
abbrev iowRep : Io := ⟨[dI, dL], [], [], [.dat tRep true false, dI], none⟩
def FwRep (d : iowRep.In) : Tr iowRep.Res := .ret (.ret (((spDecRep d.1.1 d.1.2.1).1, ((spDecRep d.1.1 d.1.2.1).2, ())), ()))
abbrev cswRep : List (Nat × Hc) := [(60, orHd newBad (ioHd iodNewZ FdNewZ) (ioHd iodNew FdNew)), (61, orHd deadB (ioHd iodHasZ FdHasZ) (ioHd iodHas FdHas)), (64, orHd deadB (ioHd iodI32Z FdI32Z) (ioHd iodI32 FdI32)), (72, orHd deadB (ioHd iowGonesZ FwGonesZ) (ioHd iowGones FwGones)), (71, orHd deadB (ioHd iodEndZ FdEndZ) (ioHd iodEnd FdEnd))]
def hdwRep : Hd := hdT cswRep
def lpwRep : Lp := lpT []
def bodywRep (a0 : Int) (a1 : List Int) : Option iowRep.Res := bif !(decide (0 ≤ a0) && (decide (a0 ≤ 3) && decide ((↑a1.length : Int) ≤ 130048))) then bif decide (0 ≤ a0) && (decide (a0 ≤ 3) && decide ((↑a1.length : Int) ≤ 130048)) then none else bif decide (spNewD a0 ≠ 0) then bif decide (spNewD a0 ≠ 0) then bif decide (spNewD a0 ≠ 0) then bif spNewD a0 != 0 then some (Out.ret ((([], 0, ()), spNewD a0, ()), ())) else some (Out.ret ((([], 0, ()), 0, ()), ())) else none else none else none else bif decide (0 ≤ a0) && (decide (a0 ≤ 3) && decide ((↑a1.length : Int) ≤ 130048)) then bif spDok a1 0 then bif spDHas a0 1 3 (spDGones a0 a1 (0, 0)).snd.fst then bif spDok a1 (spDGones a0 a1 (0, 0)).snd.snd then bif spDEnd a1 (spDn IntKind.i32 4 a1 (spDGones a0 a1 (0, 0)).snd).snd != 0 then some (Out.ret ((([], 0, ()), spDEnd a1 (spDn IntKind.i32 4 a1 (spDGones a0 a1 (0, 0)).snd).snd, ()), ())) else some (Out.ret ((((spDGones a0 a1 (0, 0)).fst, (spDn IntKind.i32 4 a1 (spDGones a0 a1 (0, 0)).snd).fst, ()), 0, ()), ())) else none else bif spDEnd a1 (spDGones a0 a1 (0, 0)).snd != 0 then some (Out.ret ((([], 0, ()), spDEnd a1 (spDGones a0 a1 (0, 0)).snd, ()), ())) else some (Out.ret ((((spDGones a0 a1 (0, 0)).fst, 0, ()), 0, ()), ())) else none else none
theorem runwRep (a0 : Int) (a1 : List Int) : Io.run tt hdwRep dr lpwRep iowRep Go.Proofs.Tryz.f24 ((a0, a1, ()), ()) = bodywRep a0 a1 := by kernel_rfl
theorem okwRep : HcOk prog 24 (ioHd iowRep FwRep) := by
  refine fn_sound (n := 400) hm (cs := cswRep) (.cons (or_sound okdNewZ okdNew) (.cons (or_sound okdHasZ okdHas) (.cons (or_sound okdI32Z okdI32) (.cons (or_sound okwGonesZ okwGones) (.cons (or_sound okdEndZ okdEnd) .nil))))) (lp := lpwRep) (fn := Go.Proofs.Tryz.f24) (by kernel_rfl) (by kernel_rfl) (by kernel_rfl) iowRep (.done (by kernel_rfl)) FwRep ?_
  rintro ⟨⟨(v : Int), (b : List Int), ⟨⟩⟩, ⟨⟩⟩ out hw ho
  cases ho
  refine (runwRep v b).trans ?_
  unfold bodywRep
  show _ = some (Out.ret (((spDecRep v b).1, ((spDecRep v b).2, ())), ()))
  by_cases h : 0 ≤ v ∧ v ≤ 3 ∧ (b.length : Int) ≤ 130048
  · have hc : (decide (0 ≤ v) && (decide (v ≤ 3) && decide ((b.length : Int) ≤ 130048))) = true := by simpa using h
    refine (bif_false (by rw [hc]; rfl) _ _).trans ?_
    refine (bif_true hc _ _).trans ?_
    have hg : spDok b 0 = true := by simp [spDok]; omega
    unfold spDecRep spDRepB
    rw [if_pos h]
    have g1 : spDok b (spDGones v b (0, 0)).2.2 = true := spDGones_ok (s := (0, 0)) hg
    refine (bif_true hg _ _).trans ?_
    show (bif spDHas v 1 3 (spDGones v b (0, 0)).2.1 then _ else _) = _
    cases h2 : spDHas v 1 3 (spDGones v b (0, 0)).2.1
    · have e2 : spDHasN .i32 4 v 1 3 b (spDGones v b (0, 0)).2 = (0, (spDGones v b (0, 0)).2) := by unfold spDHasN; rw [if_neg (by rw [h2]; decide)]
      rw [e2]
      show _ = some (Out.ret (((if spDEnd b (spDGones v b (0, 0)).2 = 0 then _ else _ : tRep.den × Int).1, _), ()))
      by_cases hE : spDEnd b (spDGones v b (0, 0)).2 = 0
      · rw [if_pos hE]
        exact bif_false (show (spDEnd b (spDGones v b (0, 0)).2 != 0) = false by simpa using hE) _ _
      · rw [if_neg hE]
        exact bif_true (show (spDEnd b (spDGones v b (0, 0)).2 != 0) = true by simpa using hE) _ _
    · have e2 : spDHasN .i32 4 v 1 3 b (spDGones v b (0, 0)).2 = spDn .i32 4 b (spDGones v b (0, 0)).2 := by unfold spDHasN; rw [if_pos h2]
      rw [e2]
      refine (bif_true g1 _ _).trans ?_
      by_cases hE : spDEnd b (spDn .i32 4 b (spDGones v b (0, 0)).2).2 = 0
      · rw [if_pos hE]
        exact bif_false (by simpa using hE) _ _
      · rw [if_neg hE]
        exact bif_true (by simpa using hE) _ _
  · have hc : (decide (0 ≤ v) && (decide (v ≤ 3) && decide ((b.length : Int) ≤ 130048))) = false := by
      rw [Bool.eq_false_iff]
      intro h'
      simp only [Bool.and_eq_true, decide_eq_true_eq] at h'
      exact h h'
    have hn : spNewD v ≠ 0 := by unfold spNewD; split <;> decide
    unfold spDecRep
    rw [if_neg h]
    refine (bif_true (by rw [hc]; rfl) _ _).trans ?_
    refine (bif_false hc _ _).trans ?_
    refine (bif_true (decide_eq_true hn) _ _).trans ?_
    refine (bif_true (decide_eq_true hn) _ _).trans ?_
    refine (bif_true (decide_eq_true hn) _ _).trans ?_
    exact bif_true (by simpa using hn) _ _
end
end Go.Proofs.YtmlgepgcofmpeaaGreat.Sym
namespace Go.Proofs.YtmlgepgcofmpeaaGreat.Sym
open Go
set_option linter.unusedSimpArgs false
set_option linter.unusedVariables false
noncomputable section
abbrev ndNum (k n : Int) : Nd := .mk (k, (n, (false, (([] : List Int), ())))) []
abbrev ndText (s : List Int) : Nd := .mk (5, (0, (false, (s, ())))) []
abbrev ndNText (x : tNameT.den) : Nd := .mk (6, (0, (x.1, (x.2.1, ())))) []
abbrev ndNBytes (x : tBlobT.den) : Nd := .mk (8, (0, (x.1, (x.2.1, ())))) []
abbrev ndRow (l : List Nd) : Nd := .mk (10, (0, (false, (([] : List Int), ())))) l
abbrev ndRows (l : List Nd) : Nd := .mk (9, (0, (false, (([] : List Int), ())))) l
theorem i64_i32 {n : Int} (h : inR .i32 n) : IntKind.i64.wrap n = n := by
  simp only [inR, IntKind.min, IntKind.max, IntKind.signed, IntKind.bits] at h
  simp at h
  exact wrap_i64 (by omega) (by omega)
theorem i64_i16 {n : Int} (h : inR .i16 n) : IntKind.i64.wrap n = n := by
  simp only [inR, IntKind.min, IntKind.max, IntKind.signed, IntKind.bits] at h
  simp at h
  exact wrap_i64 (by omega) (by omega)
def spFPart (p : tPart.den) : Nd := ndRow [ndNum 3 p.1, ndNBytes p.2.1]
theorem spFPart_eq {p : tPart.den} (h : tPart.wf p) : ndRow [ndNum 3 (IntKind.i64.wrap p.1), ndNBytes p.2.1] = spFPart p := by
  rw [i64_i32 h.1]; rfl
def spFTopic (t : tTopic.den) : Nd := ndRow [ndText t.1, ndRows (t.2.1.map spFPart)]
@[irreducible] def spFullReq (m : tReq.den) : Nd := ndRow [ndNText m.1, ndNum 2 m.2.1, ndNum 3 m.2.2.1, ndRows (m.2.2.2.1.map spFTopic)]
theorem spWt_data (n : Nd) : n.lab.2.2.2.1.length ≤ spWt n := by rw [spWt_eq]; omega
theorem spWts_kids (n : Nd) : spWts n.kids ≤ spWt n := by rw [spWt_eq]; omega
theorem spAt_wt (n : Nd) (i : Int) : spWt (spAt n i) ≤ spWt n := by
  unfold spAt
  split
  · rename_i h
    have hlt : i.toNat < n.kids.length := by omega
    rw [getD_lt hlt]
    have := spWt_mem (List.getElem_mem hlt)
    have := spWts_kids n
    omega
  · have := spWt_pos n
    have h0 := spWts_nil
    rw [spWt_eq (Tre.mk _ _)]
    show 1 + 0 + spWts [] ≤ spWt n
    omega
def spPartOf (x : Nd) : tPart.den := (IntKind.i32.wrap (spAt x 0).lab.2.1, ((spAt x 1).lab.2.2, ()))
def spTopicOf (x : Nd) : tTopic.den := ((spAt x 0).lab.2.2.2.1, ((spAt x 1).kids.map spPartOf, ()))
@[irreducible] def spReqOf (n : Nd) : tReq.den := (((spAt n 0).lab.2.2.1, ((spAt n 0).lab.2.2.2.1, ())), (IntKind.i16.wrap (spAt n 1).lab.2.1, (IntKind.i32.wrap (spAt n 2).lab.2.1, ((spAt n 3).kids.map spTopicOf, ()))))
def spFDone (p : tDone.den) : Nd := ndRow [ndNum 3 p.1, ndNum 2 p.2.1, ndNum 4 p.2.2.1, ndNum 4 p.2.2.2.1, ndNum 4 p.2.2.2.2.1]
theorem spFDone_eq {p : tDone.den} (h : tDone.wf p) : ndRow [ndNum 3 (IntKind.i64.wrap p.1), ndNum 2 (IntKind.i64.wrap p.2.1), ndNum 4 p.2.2.1, ndNum 4 p.2.2.2.1, ndNum 4 p.2.2.2.2.1] = spFDone p := by
  rw [i64_i32 h.1, i64_i16 h.2.1]; rfl
def spFGone (t : tGone.den) : Nd := ndRow [ndText t.1, ndRows (t.2.1.map spFDone)]
@[irreducible] def spFullRep (m : tRep.den) : Nd := ndRow [ndRows (m.1.map spFGone), ndNum 3 m.2.1]
def spDoneOf (x : Nd) : tDone.den := (IntKind.i32.wrap (spAt x 0).lab.2.1, (IntKind.i16.wrap (spAt x 1).lab.2.1, ((spAt x 2).lab.2.1, ((spAt x 3).lab.2.1, ((spAt x 4).lab.2.1, ())))))
def spGoneOf (x : Nd) : tGone.den := ((spAt x 0).lab.2.2.2.1, ((spAt x 1).kids.map spDoneOf, ()))
@[irreducible] def spRepOf (n : Nd) : tRep.den := ((spAt n 0).kids.map spGoneOf, (IntKind.i32.wrap (spAt n 1).lab.2.1, ()))
abbrev iozFullReq : Io := ⟨[.dat tReq true false], [], [], [dNode], none⟩
def spLensReq (l : List tTopic.den) : Bool := decide (l.length ≤ 4294967296) && l.all fun t => decide (t.2.1.length ≤ 4294967296)
def FzFullReq (d : iozFullReq.In) : Tr iozFullReq.Res := .ite (spLensReq d.1.1.2.2.2.1) (.ret (.ret ((spFullReq d.1.1, ()), ()))) .no
abbrev cszFullReq : List (Nat × Hc) := [(92, ioHd iotNum FtNum), (93, ioHd iotNBytes FtNBytes), (91, ioHd iotRow FtRow), (94, ioHd iotText FtText), (95, ioHd iotRows FtRows), (96, ioHd iotNText FtNText)]
def hdzFullReq : Hd := hdT cszFullReq
abbrev lozFullReq_8 : Lo := ⟨⟨[.any, .one (.ptr 1 0), .one (.ptr 2 0), .one (.onl 68 tNode 7), .one (.hol (.int IntKind.i64)), .one (.onl 68 tNode 11), .one (.hol (.int IntKind.i64)), .any, .any, .any, .any, .any, .any, .any, .any, .any, .any, .any, .any, .any, .any, .any, .any, .any, .any, .any, .any, .any, .any, .any, .any, .any, .any, .any, .any, .any, .any, .any, .any, .any, .any, .any, .any, .any, .any, .any, .any, .any, .any, .any, .any, .any, .any, .any, .any, .any, .any, .any, .any, .any, .any, .any, .any, .any, .any, .any, .any, .any, .any, .any, .any, .any, .any, .any, .any, .any, .any, .any], [none, some [.hol .bool, .hol .str, .hol (.int IntKind.i16), .hol (.int IntKind.i32), .hol (.sl 86 tTopic)], some [.hol (.int IntKind.i64), .hol (.int IntKind.i64), .hol .bool, .onl 5 (Ty.int IntKind.u8) 1032, .onl 68 tNode 1034]]⟩, [(.exit 2, ⟨[.any, .one (.ptr 1 0), .one (.ptr 2 0), .one (.onl 68 tNode 7), .one (.hol (.int IntKind.i64)), .one (.onl 68 tNode 11), .any, .any, .any, .any, .any, .any, .any, .any, .any, .any, .any, .any, .any, .any, .any, .any, .any, .any, .any, .any, .any, .any, .any, .any, .any, .any, .any, .any, .any, .any, .any, .any, .any, .any, .any, .any, .any, .any, .any, .any, .any, .any, .any, .any, .any, .any, .any, .any, .any, .any, .any, .any, .any, .any, .any, .any, .any, .any, .any, .any, .any, .any, .any, .any, .any, .any, .any, .any, .any, .any, .any, .any], [none, some [.hol .bool, .hol .str, .hol (.int IntKind.i16), .hol (.int IntKind.i32), .hol (.sl 86 tTopic)], some [.hol (.int IntKind.i64), .hol (.int IntKind.i64), .hol .bool, .onl 5 (Ty.int IntKind.u8) 1032, .onl 68 tNode 1034]]⟩)]⟩
-- FzFullReq_8 : lozFullReq_8.st.den → Tr (DenX lozFullReq_8.xs) | ((h17, (h18, (h19, (h20, ())))), ((h21, (h22, (h23, (h24, (h25, ()))))), ((h26, (h27, (h28, (h29, (h30, ()))))), ())))
abbrev lozFullReq_4 : Lo := ⟨⟨[.any, .one (.ptr 1 0), .one (.ptr 2 0), .one (.onl 68 tNode 7), .one (.hol (.int IntKind.i64)), .any, .any, .any, .any, .any, .any, .any, .any, .any, .any, .any, .any, .any, .any, .any, .any, .any, .any, .any, .any, .any, .any, .any, .any, .any, .any, .any, .any, .any, .any, .any, .any, .any, .any, .any, .any, .any, .any, .any, .any, .any, .any, .any, .any, .any, .any, .any, .any, .any, .any, .any, .any, .any, .any, .any, .any, .any, .any, .any, .any, .any, .any, .any, .any, .any, .any, .any, .any, .any, .any, .any, .any, .any], [none, some [.hol .bool, .hol .str, .hol (.int IntKind.i16), .hol (.int IntKind.i32), .hol (.sl 86 tTopic)], some [.hol (.int IntKind.i64), .hol (.int IntKind.i64), .hol .bool, .onl 5 (Ty.int IntKind.u8) 1032, .onl 68 tNode 1034]]⟩, [(.exit 0, ⟨[.any, .one (.ptr 1 0), .one (.ptr 2 0), .one (.onl 68 tNode 7), .any, .any, .any, .any, .any, .any, .any, .any, .any, .any, .any, .any, .any, .any, .any, .any, .any, .any, .any, .any, .any, .any, .any, .any, .any, .any, .any, .any, .any, .any, .any, .any, .any, .any, .any, .any, .any, .any, .any, .any, .any, .any, .any, .any, .any, .any, .any, .any, .any, .any, .any, .any, .any, .any, .any, .any, .any, .any, .any, .any, .any, .any, .any, .any, .any, .any, .any, .any, .any, .any, .any, .any, .any, .any], [none, some [.hol .bool, .hol .str, .hol (.int IntKind.i16), .hol (.int IntKind.i32), .hol (.sl 86 tTopic)], some [.hol (.int IntKind.i64), .hol (.int IntKind.i64), .hol .bool, .onl 5 (Ty.int IntKind.u8) 1032, .onl 68 tNode 1034]]⟩)]⟩
-- FzFullReq_4 : lozFullReq_4.st.den → Tr (DenX lozFullReq_4.xs) | ((h5, (h6, ())), ((h7, (h8, (h9, (h10, (h11, ()))))), ((h12, (h13, (h14, (h15, (h16, ()))))), ())))
def FzFullReq_8 (d : lozFullReq_8.st.den) : Tr (DenX lozFullReq_8.xs) :=
  .ite ((decide ((0 : Int) ≤ d.1.2.1) && decide (d.1.2.1 < (d.2.1.2.2.2.2.1.length : Int))) && ((decide (d.1.2.2.1.length = 0) && decide (d.1.2.2.2.1 = 0)) && decide ((d.2.1.2.2.2.2.1.getD d.1.2.1.toNat tTopic.zero).2.1.length ≤ 4294967296)))
    (.ret (.ret ((), ((d.1.1, (d.1.2.1, ((d.2.1.2.2.2.2.1.getD d.1.2.1.toNat tTopic.zero).2.1.map spFPart, ()))), (d.2.1, (d.2.2.1, ())))))) .no
def FzFullReq_4 (d : lozFullReq_4.st.den) : Tr (DenX lozFullReq_4.xs) :=
  .ite ((decide (d.1.1.length = 0) && decide (d.1.2.1 = 0)) && spLensReq d.2.1.2.2.2.2.1)
    (.ret (.ret ((), ((d.2.1.2.2.2.2.1.map spFTopic, ()), (d.2.1, (d.2.2.1, ())))))) .no
def lpzFullReq : Lp := lpT [(4, loHd lozFullReq_4 FzFullReq_4), (8, loHd lozFullReq_8 FzFullReq_8)]
def stepzFullReq_8 {R : Type} (h17 : List tNode.den) (h18 : Int) (h19 : List tNode.den) (h20 : Int) (h21 : Bool) (h22 : List Int) (h23 : Int) (h24 : Int) (h25 : List tTopic.den) (h26 : Int) (h27 : Int) (h28 : Bool) (h29 : List Int) (h30 : List tNode.den) (next : List tNode.den → Int → List tNode.den → Int → Bool → List Int → Int → Int → List tTopic.den → Int → Int → Bool → List Int → List tNode.den → Option R) (out : DenX lozFullReq_8.xs → Option R) : Option R := bif decide (0 ≤ h18) && decide (h18 < (↑h25.length : Int)) then bif decide (h20 < (↑(List.length (h25.getD h18.toNat ([], [], ())).snd.fst) : Int)) then bif decide (0 ≤ h18) && decide (h18 < (↑h25.length : Int)) then bif decide (0 ≤ h20) && decide (h20 < (↑(List.length (h25.getD h18.toNat ([], [], ())).snd.fst) : Int)) then bif decide (h19.length + 1 ≤ 4294967296) then next (h17) (h18) (h19 ++ [Tre.mk (10, 0, false, [], ()) [Tre.mk (3, IntKind.i64.wrap (List.getD (h25.getD h18.toNat ([], [], ())).snd.fst h20.toNat (0, (false, [], ()), ())).fst, false, [], ()) [], Tre.mk (8, 0, (List.getD (h25.getD h18.toNat ([], [], ())).snd.fst h20.toNat (0, (false, [], ()), ())).snd.fst) []]]) (IntKind.i64.wrap (h20 + 1)) (h21) (h22) (h23) (h24) (h25) (h26) (h27) (h28) (h29) (h30) else none else none else none else out (.ret ((), ((h17, (h18, (h19, ()))), ((h21, (h22, (h23, (h24, (h25, ()))))), ((h26, (h27, (h28, (h29, (h30, ()))))), ()))))) else none
def itzFullReq_8 (n : Nat) (h17 : List tNode.den) (h18 : Int) (h19 : List tNode.den) (h20 : Int) (h21 : Bool) (h22 : List Int) (h23 : Int) (h24 : Int) (h25 : List tTopic.den) (h26 : Int) (h27 : Int) (h28 : Bool) (h29 : List Int) (h30 : List tNode.den) : Option (DenX lozFullReq_8.xs) := lpN tt hdzFullReq dr lpzFullReq 0 Go.Proofs.Tryz.f34 (subL Go.Proofs.Tryz.f34 (topL Go.Proofs.Tryz.f34 0) 0) n (lozFullReq_8.st.mk' ((h17, (h18, (h19, (h20, ())))), ((h21, (h22, (h23, (h24, (h25, ()))))), ((h26, (h27, (h28, (h29, (h30, ()))))), ())))) (decX lozFullReq_8.xs)
theorem slzFullReq_8 (n : Nat) (h17 : List tNode.den) (h18 : Int) (h19 : List tNode.den) (h20 : Int) (h21 : Bool) (h22 : List Int) (h23 : Int) (h24 : Int) (h25 : List tTopic.den) (h26 : Int) (h27 : Int) (h28 : Bool) (h29 : List Int) (h30 : List tNode.den) : itzFullReq_8 (n + 1) h17 h18 h19 h20 h21 h22 h23 h24 h25 h26 h27 h28 h29 h30 = stepzFullReq_8 h17 h18 h19 h20 h21 h22 h23 h24 h25 h26 h27 h28 h29 h30 (itzFullReq_8 n) some := by kernel_rfl
def stepzFullReq_4 {R : Type} (h5 : List tNode.den) (h6 : Int) (h7 : Bool) (h8 : List Int) (h9 : Int) (h10 : Int) (h11 : List tTopic.den) (h12 : Int) (h13 : Int) (h14 : Bool) (h15 : List Int) (h16 : List tNode.den) (next : List tNode.den → Int → Bool → List Int → Int → Int → List tTopic.den → Int → Int → Bool → List Int → List tNode.den → Option R) (out : DenX lozFullReq_4.xs → Option R) : Option R := bif decide (h6 < (↑h11.length : Int)) then (FzFullReq_8 ((h5, (h6, ([], (0, ())))), ((h7, (h8, (h9, (h10, (h11, ()))))), ((h12, (h13, (h14, (h15, (h16, ()))))), ())))).run fun y => match y with | .ret ((), ((x58, x59, x60, ()), (x61, x62, x63, x64, x65, ()), (x66, x67, x68, x69, x70, ()), ())) => (bif decide (0 ≤ x59) && decide (x59 < (↑x65.length : Int)) then bif decide (x58.length + 1 ≤ 4294967296) then next (x58 ++ [Tre.mk (10, 0, false, [], ()) [Tre.mk (5, 0, false, (x65.getD x59.toNat ([], [], ())).fst, ()) [], Tre.mk (9, 0, false, [], ()) x60]]) (IntKind.i64.wrap (x59 + 1)) (x61) (x62) (x63) (x64) (x65) (x66) (x67) (x68) (x69) (x70) else none else none) else out (.ret ((), ((h5, ()), ((h7, (h8, (h9, (h10, (h11, ()))))), ((h12, (h13, (h14, (h15, (h16, ()))))), ())))))
def itzFullReq_4 (n : Nat) (h5 : List tNode.den) (h6 : Int) (h7 : Bool) (h8 : List Int) (h9 : Int) (h10 : Int) (h11 : List tTopic.den) (h12 : Int) (h13 : Int) (h14 : Bool) (h15 : List Int) (h16 : List tNode.den) : Option (DenX lozFullReq_4.xs) := lpN tt hdzFullReq dr lpzFullReq 0 Go.Proofs.Tryz.f34 (topL Go.Proofs.Tryz.f34 0) n (lozFullReq_4.st.mk' ((h5, (h6, ())), ((h7, (h8, (h9, (h10, (h11, ()))))), ((h12, (h13, (h14, (h15, (h16, ()))))), ())))) (decX lozFullReq_4.xs)
theorem slzFullReq_4 (n : Nat) (h5 : List tNode.den) (h6 : Int) (h7 : Bool) (h8 : List Int) (h9 : Int) (h10 : Int) (h11 : List tTopic.den) (h12 : Int) (h13 : Int) (h14 : Bool) (h15 : List Int) (h16 : List tNode.den) : itzFullReq_4 (n + 1) h5 h6 h7 h8 h9 h10 h11 h12 h13 h14 h15 h16 = stepzFullReq_4 h5 h6 h7 h8 h9 h10 h11 h12 h13 h14 h15 h16 (itzFullReq_4 n) some := by kernel_rfl
theorem loopzFullReq_8 {ts : List tTopic.den} (hw : ∀ t ∈ ts, tTopic.wf t) (hl : ts.length ≤ maxLen) {i : Nat} (hi : i < ts.length) (hp : (ts[i]).2.1.length ≤ 4294967296) (acc : List Nd) (nz : Bool) (ns : List Int) (ak : Int) (wt : Int) (a' b' : Int) (z' : Bool) (x' : List Int) (l' : List Nd) : ∀ (k j : Nat) (o : List Nd), (ts[i]).2.1.length < j + k → j ≤ (ts[i]).2.1.length → o.length ≤ j →
    itzFullReq_8 k acc i o j nz ns ak wt ts a' b' z' x' l' = some (.ret ((), ((acc, ((i : Int), (o ++ ((ts[i]).2.1.drop j).map spFPart, ()))), ((nz, (ns, (ak, (wt, (ts, ()))))), ((a', (b', (z', (x', (l', ()))))), ()))))) := by
  intro k
  induction k with
  | zero => intro j o h1 h2; omega
  | succ k ih =>
    intro j o h1 h2 h3
    rw [slzFullReq_8]
    unfold stepzFullReq_8
    refine (bif_true (by simp; omega) _ _).trans ?_
    have hti := hw _ (List.getElem_mem hi)
    simp only [Int.toNat_natCast, getD_lt hi]
    generalize ts[i] = t at hp h1 h2 ih hti ⊢
    by_cases hj : j < t.2.1.length
    · refine (bif_true (decide_eq_true (show (j : Int) < (t.2.1.length : Int) by omega)) _ _).trans ?_
      refine (bif_true (by simp; omega) _ _).trans ?_
      refine (bif_true (by simp; omega) _ _).trans ?_
      refine (bif_true (decide_eq_true (show o.length + 1 ≤ 4294967296 by omega)) _ _).trans ?_
      have hpw := hti.2.1.2 _ (List.getElem_mem hj)
      have ih' := ih (j + 1) (o ++ [spFPart t.2.1[j]]) (by omega) (by omega) (by simp; omega)
      have hd : t.2.1.drop j = t.2.1[j] :: t.2.1.drop (j + 1) := List.drop_eq_getElem_cons hj
      rw [hd, wrap_i64 (n := (j : Int) + 1) (by omega) (by omega)]
      have hgp : List.getD t.2.1 ((j : Int)).toNat tPart.zero = t.2.1[j] := by simp only [Int.toNat_natCast]; exact getD_lt hj

      refine Eq.trans ?_ (ih'.trans ?_)
      · refine congrArg (fun x => itzFullReq_8 k acc i (o ++ [x]) _ nz ns ak wt ts a' b' z' x' l') ?_
        show ndRow [ndNum 3 (IntKind.i64.wrap (List.getD t.2.1 ((j : Int)).toNat tPart.zero).1), ndNBytes (List.getD t.2.1 ((j : Int)).toNat tPart.zero).2.1] = _
        rw [hgp]
        exact spFPart_eq hpw
      · simp only [List.map_cons, List.append_assoc, List.singleton_append]
    · refine (bif_false (decide_eq_false (show ¬ (j : Int) < (t.2.1.length : Int) by omega)) _ _).trans ?_
      rw [List.drop_of_length_le (by omega)]
      simp
theorem loopzFullReq_4 {ts : List tTopic.den} (hw : ∀ t ∈ ts, tTopic.wf t) (hl : ts.length ≤ maxLen) (hs : spLensReq ts = true) (nz : Bool) (ns : List Int) (ak : Int) (wt : Int) (a' b' : Int) (z' : Bool) (x' : List Int) (l' : List Nd) : ∀ (k j : Nat) (o : List Nd), ts.length < j + k → j ≤ ts.length → o.length ≤ j →
    itzFullReq_4 k o j nz ns ak wt ts a' b' z' x' l' = some (.ret ((), ((o ++ (ts.drop j).map spFTopic, ()), ((nz, (ns, (ak, (wt, (ts, ()))))), ((a', (b', (z', (x', (l', ()))))), ()))))) := by
  intro k
  have hs1 := (Bool.and_eq_true _ _ ▸ hs).1
  have hs2 := (Bool.and_eq_true _ _ ▸ hs).2
  have hs1 : ts.length ≤ 4294967296 := of_decide_eq_true hs1
  induction k with
  | zero => intro j o h1 h2; omega
  | succ k ih =>
    intro j o h1 h2 h3
    rw [slzFullReq_4]
    unfold stepzFullReq_4
    by_cases hj : j < ts.length
    · refine (bif_true (decide_eq_true (show (j : Int) < (ts.length : Int) by omega)) _ _).trans ?_
      have hgp : ts.getD ((j : Int)).toNat tTopic.zero = ts[j] := by simp only [Int.toNat_natCast]; exact getD_lt hj
      have hpl : (ts[j]).2.1.length ≤ 4294967296 := of_decide_eq_true (List.all_eq_true.1 hs2 _ (List.getElem_mem hj))
      have c8 : ((decide ((0 : Int) ≤ (j : Int)) && decide ((j : Int) < (ts.length : Int))) && ((decide (([] : List Nd).length = 0) && decide ((0 : Int) = 0)) && decide ((ts.getD ((j : Int)).toNat tTopic.zero).2.1.length ≤ 4294967296))) = true := by
        rw [hgp]; simp; omega
      refine (bif_true c8 _ _).trans ?_
      refine (bif_true (by simp; omega) _ _).trans ?_
      refine (bif_true (decide_eq_true (show o.length + 1 ≤ 4294967296 by omega)) _ _).trans ?_
      rw [wrap_i64 (n := (j : Int) + 1) (by omega) (by omega)]
      have ih' := ih (j + 1) (o ++ [spFTopic ts[j]]) (by omega) (by omega) (by simp; omega)
      have hd : ts.drop j = ts[j] :: ts.drop (j + 1) := List.drop_eq_getElem_cons hj
      rw [hd]
      refine Eq.trans ?_ (ih'.trans ?_)
      · refine congrArg (fun x => itzFullReq_4 k (o ++ [x]) _ nz ns ak wt ts a' b' z' x' l') ?_
        show (ndRow [ndText (ts.getD ((j : Int)).toNat tTopic.zero).1, ndRows ((ts.getD ((j : Int)).toNat tTopic.zero).2.1.map spFPart)]) = _
        rw [hgp]; rfl
      · simp only [List.map_cons, List.append_assoc, List.singleton_append]
    · refine (bif_false (decide_eq_false (show ¬ (j : Int) < (ts.length : Int) by omega)) _ _).trans ?_
      rw [List.drop_of_length_le (by omega)]
      simp
def bodyzFullReq (a0 : Bool) (a1 : List Int) (a2 : Int) (a3 : Int) (a4 : List tTopic.den) : Option iozFullReq.Res := (FzFullReq_4 (([], (0, ())), ((a0, (a1, (a2, (a3, (a4, ()))))), ((0, (0, (false, ([], ([], ()))))), ())))).run fun y => match y with | .ret ((), ((x94, ()), (x95, x96, x97, x98, x99, ()), (x100, x101, x102, x103, x104, ()), ())) => (some (Out.ret ((Tre.mk (10, 0, false, [], ()) [Tre.mk (6, 0, x95, x96, ()) [], Tre.mk (2, IntKind.i64.wrap x97, false, [], ()) [], Tre.mk (3, IntKind.i64.wrap x98, false, [], ()) [], Tre.mk (9, 0, false, [], ()) x94], ()), ())))
theorem runzFullReq (a0 : Bool) (a1 : List Int) (a2 : Int) (a3 : Int) (a4 : List tTopic.den) : Io.run tt hdzFullReq dr lpzFullReq iozFullReq Go.Proofs.Tryz.f34 ((((a0, a1, ()), a2, a3, a4, ()), ()), ()) = bodyzFullReq a0 a1 a2 a3 a4 := by kernel_rfl
theorem okzFullReq : HcOk prog 34 (ioHd iozFullReq FzFullReq) := by
  refine fn_sound (n := 400) hm (cs := cszFullReq) (.cons oktNum (.cons oktNBytes (.cons oktRow (.cons oktText (.cons oktRows (.cons oktNText .nil)))))) (lp := lpzFullReq) (fn := Go.Proofs.Tryz.f34) (by kernel_rfl) (by kernel_rfl) (by kernel_rfl) iozFullReq (.step (h0 := loHd lozFullReq_4 FzFullReq_4) (by kernel_rfl) (loop_sound (n := 400) hm (cs := cszFullReq) (.cons oktNum (.cons oktNBytes (.cons oktRow (.cons oktText (.cons oktRows (.cons oktNText .nil)))))) (lp := lpzFullReq) (fn := Go.Proofs.Tryz.f34) (.step (h0 := loHd lozFullReq_8 FzFullReq_8) (by kernel_rfl) (loop_sound (n := 400) hm (cs := cszFullReq) (.cons oktNum (.cons oktNBytes (.cons oktRow (.cons oktText (.cons oktRows (.cons oktNText .nil)))))) (lp := lpzFullReq) (fn := Go.Proofs.Tryz.f34) (.done (by kernel_rfl)) lozFullReq_8 FzFullReq_8 ?_) (.done (by kernel_rfl))) lozFullReq_4 FzFullReq_4 ?_) (.done (by kernel_rfl))) FzFullReq ?_
  · rintro ⟨⟨(acc : List Nd), (i : Int), (o : List Nd), (j : Int), ⟨⟩⟩, ⟨⟨(nz : Bool), (ns : List Int), (ak : Int), (wt : Int), (ts : List tTopic.den), ⟨⟩⟩, ⟨(a' : Int), (b' : Int), (z' : Bool), (x' : List Int), (l' : List Nd), ⟨⟩⟩, ⟨⟩⟩⟩ y hw hy
    obtain ⟨hg, hy⟩ := Tr.guard hy
    simp only [Bool.and_eq_true, decide_eq_true_eq] at hg
    obtain ⟨⟨h1, h2⟩, ⟨h3, h4⟩, h5⟩ := hg
    have h1 : 0 ≤ i := h1
    have h2 : i < (ts.length : Int) := h2
    have h3 : o = [] := List.eq_nil_of_length_eq_zero h3
    have h4 : j = 0 := h4
    obtain ⟨i, rfl⟩ := toNat_of h1
    subst h3
    subst h4
    have hi : i < ts.length := by omega
    have hgp : ts.getD ((i : Int)).toNat tTopic.zero = ts[i] := by simp only [Int.toNat_natCast]; exact getD_lt hi
    have h5 : (ts.getD ((i : Int)).toNat tTopic.zero).2.1.length ≤ 4294967296 := h5
    rw [hgp] at h5
    have hwt : ts.length ≤ maxLen ∧ ∀ t ∈ ts, tTopic.wf t := by have := hw.2.1.2.2.2.2.1; exact this
    refine ⟨(ts[i]).2.1.length + 1, (loopzFullReq_8 hwt.2 hwt.1 hi h5 acc nz ns ak wt a' b' z' x' l' ((ts[i]).2.1.length + 1) 0 [] (by omega) (by omega) (by simp)).trans ?_⟩
    rw [← hy, ← hgp, List.drop_zero]
    rfl
  · rintro ⟨⟨(o : List Nd), (j : Int), ⟨⟩⟩, ⟨⟨(nz : Bool), (ns : List Int), (ak : Int), (wt : Int), (ts : List tTopic.den), ⟨⟩⟩, ⟨(a' : Int), (b' : Int), (z' : Bool), (x' : List Int), (l' : List Nd), ⟨⟩⟩, ⟨⟩⟩⟩ y hw hy
    obtain ⟨hg, hy⟩ := Tr.guard hy
    simp only [Bool.and_eq_true, decide_eq_true_eq] at hg
    obtain ⟨⟨h3, h4⟩, h5⟩ := hg
    have h3 : o = [] := List.eq_nil_of_length_eq_zero h3
    have h4 : j = 0 := h4
    have h5 : spLensReq ts = true := h5
    subst h3
    subst h4
    have hwt : ts.length ≤ maxLen ∧ ∀ t ∈ ts, tTopic.wf t := by have := hw.2.1.2.2.2.2.1; exact this
    refine ⟨ts.length + 1, (loopzFullReq_4 hwt.2 hwt.1 h5 nz ns ak wt a' b' z' x' l' (ts.length + 1) 0 [] (by omega) (by omega) (by simp)).trans ?_⟩
    rw [← hy, List.drop_zero]
    rfl
  · rintro ⟨⟨⟨⟨(nz : Bool), (ns : List Int), ⟨⟩⟩, (ak : Int), (wt : Int), (ts : List tTopic.den), ⟨⟩⟩, ⟨⟩⟩, ⟨⟩⟩ out hw ho
    obtain ⟨hg, ho⟩ := Tr.guard ho
    have hg : spLensReq ts = true := hg
    cases ho
    refine (runzFullReq nz ns ak wt ts).trans ?_
    unfold bodyzFullReq
    have c1 : ((decide (([] : List Nd).length = 0) && decide ((0 : Int) = 0)) && spLensReq ts) = true := by rw [hg]; rfl
    refine (bif_true c1 _ _).trans ?_
    show _ = some (Out.ret ((spFullReq ((nz, (ns, ())), (ak, (wt, (ts, ())))), ()), ()))
    unfold spFullReq
    have h1 : IntKind.i64.wrap ak = ak := i64_i16 hw.1.1.2.1
    have h2 : IntKind.i64.wrap wt = wt := i64_i32 hw.1.1.2.2.1
    show some (Out.ret ((ndRow [ndNText (nz, (ns, ())), ndNum 2 (IntKind.i64.wrap ak), ndNum 3 (IntKind.i64.wrap wt), ndRows (ts.map spFTopic)], ()), ())) = _
    rw [h1, h2]
abbrev iozReqOf : Io := ⟨[dNode], [], [], [.dat tReq true false], none⟩
def FzReqOf (d : iozReqOf.In) : Tr iozReqOf.Res := .ite (decide (spWt d.1.1 ≤ 4294967296)) (.ret (.ret ((spReqOf d.1.1, ()), ()))) .no
abbrev cszReqOf : List (Nat × Hc) := [(89, ioHd iotAt FtAt), (88, ioHd iotNameOf FtNameOf), (90, ioHd iotBlobOf FtBlobOf)]
def hdzReqOf : Hd := hdT cszReqOf
abbrev lozReqOf_10 : Lo := ⟨⟨[.any, .any, .one (.ptr 2 0), .one (.ptr 3 0), .one (.hol (.sl 68 tNode)), .one (.hol (.int IntKind.i64)), .one (.ptr 6 0), .one (.hol (.sl 68 tNode)), .one (.hol (.int IntKind.i64)), .any, .any, .any, .any, .any, .any, .any, .any, .any, .any, .any, .any, .any, .any, .any, .any, .any, .any, .any, .any, .any, .any, .any, .any, .any, .any, .any, .any, .any, .any, .any, .any, .any, .any, .any, .any, .any, .any, .any, .any, .any, .any, .any, .any, .any, .any, .any, .any, .any, .any, .any, .any, .any, .any, .any, .any, .any, .any, .any, .any, .any, .any, .any, .any, .any, .any, .any], [none, none, some [.hol .bool, .hol .str, .hol (.int IntKind.i16), .hol (.int IntKind.i32), .onl 86 tTopic 1034], some [.hol .bool, .hol .str, .hol (.int IntKind.i16), .hol (.int IntKind.i32), .onl 86 tTopic 1546], none, none, some [.hol .str, .onl 92 tPart 3076]]⟩, [(.exit 2, ⟨[.any, .any, .one (.ptr 2 0), .one (.ptr 3 0), .one (.hol (.sl 68 tNode)), .one (.hol (.int IntKind.i64)), .one (.ptr 6 0), .any, .any, .any, .any, .any, .any, .any, .any, .any, .any, .any, .any, .any, .any, .any, .any, .any, .any, .any, .any, .any, .any, .any, .any, .any, .any, .any, .any, .any, .any, .any, .any, .any, .any, .any, .any, .any, .any, .any, .any, .any, .any, .any, .any, .any, .any, .any, .any, .any, .any, .any, .any, .any, .any, .any, .any, .any, .any, .any, .any, .any, .any, .any, .any, .any, .any, .any, .any, .any], [none, none, some [.hol .bool, .hol .str, .hol (.int IntKind.i16), .hol (.int IntKind.i32), .onl 86 tTopic 1034], some [.hol .bool, .hol .str, .hol (.int IntKind.i16), .hol (.int IntKind.i32), .onl 86 tTopic 1546], none, none, some [.hol .str, .onl 92 tPart 3076]]⟩)]⟩
-- FzReqOf_10 : lozReqOf_10.st.den → Tr (DenX lozReqOf_10.xs) | ((h13, (h14, (h15, (h16, ())))), ((h17, (h18, (h19, (h20, (h21, ()))))), ((h22, (h23, (h24, (h25, (h26, ()))))), ((h27, (h28, ())), ()))))
abbrev lozReqOf_5 : Lo := ⟨⟨[.any, .any, .one (.ptr 2 0), .one (.ptr 3 0), .one (.hol (.sl 68 tNode)), .one (.hol (.int IntKind.i64)), .any, .any, .any, .any, .any, .any, .any, .any, .any, .any, .any, .any, .any, .any, .any, .any, .any, .any, .any, .any, .any, .any, .any, .any, .any, .any, .any, .any, .any, .any, .any, .any, .any, .any, .any, .any, .any, .any, .any, .any, .any, .any, .any, .any, .any, .any, .any, .any, .any, .any, .any, .any, .any, .any, .any, .any, .any, .any, .any, .any, .any, .any, .any, .any, .any, .any, .any, .any, .any, .any], [none, none, some [.hol .bool, .hol .str, .hol (.int IntKind.i16), .hol (.int IntKind.i32), .onl 86 tTopic 1034], some [.hol .bool, .hol .str, .hol (.int IntKind.i16), .hol (.int IntKind.i32), .onl 86 tTopic 1546]]⟩, [(.exit 0, ⟨[.any, .any, .one (.ptr 2 0), .one (.ptr 3 0), .any, .any, .any, .any, .any, .any, .any, .any, .any, .any, .any, .any, .any, .any, .any, .any, .any, .any, .any, .any, .any, .any, .any, .any, .any, .any, .any, .any, .any, .any, .any, .any, .any, .any, .any, .any, .any, .any, .any, .any, .any, .any, .any, .any, .any, .any, .any, .any, .any, .any, .any, .any, .any, .any, .any, .any, .any, .any, .any, .any, .any, .any, .any, .any, .any, .any, .any, .any, .any, .any, .any, .any], [none, none, some [.hol .bool, .hol .str, .hol (.int IntKind.i16), .hol (.int IntKind.i32), .onl 86 tTopic 1034], some [.hol .bool, .hol .str, .hol (.int IntKind.i16), .hol (.int IntKind.i32), .onl 86 tTopic 1546]]⟩)]⟩
-- FzReqOf_5 : lozReqOf_5.st.den → Tr (DenX lozReqOf_5.xs) | ((h1, (h2, ())), ((h3, (h4, (h5, (h6, (h7, ()))))), ((h8, (h9, (h10, (h11, (h12, ()))))), ())))
def FzReqOf_10 (d : lozReqOf_10.st.den) : Tr (DenX lozReqOf_10.xs) :=
  .ite ((decide (d.1.2.2.2.1 = 0) && decide (d.2.2.2.1.2.1.length = 0)) && decide (spWts d.1.2.2.1 ≤ 4294967296))
    (.ret (.ret ((), ((d.1.1, (d.1.2.1, ())), (d.2.1, (d.2.2.1, ((d.2.2.2.1.1, (d.1.2.2.1.map spPartOf, ())), ()))))))) .no
def FzReqOf_5 (d : lozReqOf_5.st.den) : Tr (DenX lozReqOf_5.xs) :=
  .ite ((decide (d.1.2.1 = 0) && decide (d.2.2.1.2.2.2.2.1.length = 0)) && decide (spWts d.1.1 ≤ 4294967296))
    (.ret (.ret ((), ((), (d.2.1, ((d.2.2.1.1, (d.2.2.1.2.1, (d.2.2.1.2.2.1, (d.2.2.1.2.2.2.1, (d.1.1.map spTopicOf, ()))))), ())))))) .no
def lpzReqOf : Lp := lpT [(5, loHd lozReqOf_5 FzReqOf_5), (10, loHd lozReqOf_10 FzReqOf_10)]
def stepzReqOf_10 {R : Type} (h13 : List (Nd)) (h14 : Int) (h15 : List (Nd)) (h16 : Int) (h17 : Bool) (h18 : List Int) (h19 : Int) (h20 : Int) (h21 : List tTopic.den) (h22 : Bool) (h23 : List Int) (h24 : Int) (h25 : Int) (h26 : List tTopic.den) (h27 : List Int) (h28 : List tPart.den) (next : List (Nd) → Int → List (Nd) → Int → Bool → List Int → Int → Int → List tTopic.den → Bool → List Int → Int → Int → List tTopic.den → List Int → List tPart.den → Option R) (out : DenX lozReqOf_10.xs → Option R) : Option R := bif decide (h16 < (↑h15.length : Int)) then bif decide (0 ≤ h16) && decide (h16 < (↑h15.length : Int)) then bif decide (0 ≤ h16) && decide (h16 < (↑h15.length : Int)) then bif decide (List.length (spAt (Tre.mk (h15.getD h16.toNat (Tre.mk (0, 0, false, [], ()) [])).1 (h15.getD h16.toNat (Tre.mk (0, 0, false, [], ()) [])).2) 1).1.snd.snd.snd.fst ≤ 4294967296) then bif decide (h28.length + 1 ≤ 4294967296) then next (h13) (h14) (h15) (IntKind.i64.wrap (h16 + 1)) (h17) (h18) (h19) (h20) (h21) (h22) (h23) (h24) (h25) (h26) (h27) (h28 ++ [(IntKind.i32.wrap (spAt (Tre.mk (h15.getD h16.toNat (Tre.mk (0, 0, false, [], ()) [])).1 (h15.getD h16.toNat (Tre.mk (0, 0, false, [], ()) [])).2) 0).1.snd.fst, (spAt (Tre.mk (h15.getD h16.toNat (Tre.mk (0, 0, false, [], ()) [])).1 (h15.getD h16.toNat (Tre.mk (0, 0, false, [], ()) [])).2) 1).1.snd.snd, ())]) else none else none else none else none else out (.ret ((), ((h13, (h14, ())), ((h17, (h18, (h19, (h20, (h21, ()))))), ((h22, (h23, (h24, (h25, (h26, ()))))), ((h27, (h28, ())), ()))))))
def itzReqOf_10 (n : Nat) (h13 : List (Nd)) (h14 : Int) (h15 : List (Nd)) (h16 : Int) (h17 : Bool) (h18 : List Int) (h19 : Int) (h20 : Int) (h21 : List tTopic.den) (h22 : Bool) (h23 : List Int) (h24 : Int) (h25 : Int) (h26 : List tTopic.den) (h27 : List Int) (h28 : List tPart.den) : Option (DenX lozReqOf_10.xs) := lpN tt hdzReqOf dr lpzReqOf 0 Go.Proofs.Tryz.f32 (subL Go.Proofs.Tryz.f32 (topL Go.Proofs.Tryz.f32 0) 0) n (lozReqOf_10.st.mk' ((h13, (h14, (h15, (h16, ())))), ((h17, (h18, (h19, (h20, (h21, ()))))), ((h22, (h23, (h24, (h25, (h26, ()))))), ((h27, (h28, ())), ()))))) (decX lozReqOf_10.xs)
theorem slzReqOf_10 (n : Nat) (h13 : List (Nd)) (h14 : Int) (h15 : List (Nd)) (h16 : Int) (h17 : Bool) (h18 : List Int) (h19 : Int) (h20 : Int) (h21 : List tTopic.den) (h22 : Bool) (h23 : List Int) (h24 : Int) (h25 : Int) (h26 : List tTopic.den) (h27 : List Int) (h28 : List tPart.den) : itzReqOf_10 (n + 1) h13 h14 h15 h16 h17 h18 h19 h20 h21 h22 h23 h24 h25 h26 h27 h28 = stepzReqOf_10 h13 h14 h15 h16 h17 h18 h19 h20 h21 h22 h23 h24 h25 h26 h27 h28 (itzReqOf_10 n) some := by kernel_rfl
def stepzReqOf_5 {R : Type} (h1 : List (Nd)) (h2 : Int) (h3 : Bool) (h4 : List Int) (h5 : Int) (h6 : Int) (h7 : List tTopic.den) (h8 : Bool) (h9 : List Int) (h10 : Int) (h11 : Int) (h12 : List tTopic.den) (next : List (Nd) → Int → Bool → List Int → Int → Int → List tTopic.den → Bool → List Int → Int → Int → List tTopic.den → Option R) (out : DenX lozReqOf_5.xs → Option R) : Option R := bif decide (h2 < (↑h1.length : Int)) then bif decide (0 ≤ h2) && decide (h2 < (↑h1.length : Int)) then bif decide (0 ≤ h2) && decide (h2 < (↑h1.length : Int)) then (FzReqOf_10 ((h1, (h2, ((spAt (Tre.mk (h1.getD h2.toNat (Tre.mk (0, 0, false, [], ()) [])).1 (h1.getD h2.toNat (Tre.mk (0, 0, false, [], ()) [])).2) 1).2, (0, ())))), ((h3, (h4, (h5, (h6, (h7, ()))))), ((h8, (h9, (h10, (h11, (h12, ()))))), (((spAt (Tre.mk (h1.getD h2.toNat (Tre.mk (0, 0, false, [], ()) [])).1 (h1.getD h2.toNat (Tre.mk (0, 0, false, [], ()) [])).2) 0).1.snd.snd.snd.fst, ([], ())), ()))))).run fun y => match y with | .ret ((), ((x59, x60, ()), (x61, x62, x63, x64, x65, ()), (x66, x67, x68, x69, x70, ()), (x71, x72, ()), ())) => (bif decide (x70.length + 1 ≤ 4294967296) then next (x59) (IntKind.i64.wrap (x60 + 1)) (x61) (x62) (x63) (x64) (x65) (x66) (x67) (x68) (x69) (x70 ++ [(x71, x72, ())]) else none) else none else none else out (.ret ((), ((), ((h3, (h4, (h5, (h6, (h7, ()))))), ((h8, (h9, (h10, (h11, (h12, ()))))), ())))))
def itzReqOf_5 (n : Nat) (h1 : List (Nd)) (h2 : Int) (h3 : Bool) (h4 : List Int) (h5 : Int) (h6 : Int) (h7 : List tTopic.den) (h8 : Bool) (h9 : List Int) (h10 : Int) (h11 : Int) (h12 : List tTopic.den) : Option (DenX lozReqOf_5.xs) := lpN tt hdzReqOf dr lpzReqOf 0 Go.Proofs.Tryz.f32 (topL Go.Proofs.Tryz.f32 0) n (lozReqOf_5.st.mk' ((h1, (h2, ())), ((h3, (h4, (h5, (h6, (h7, ()))))), ((h8, (h9, (h10, (h11, (h12, ()))))), ())))) (decX lozReqOf_5.xs)
theorem slzReqOf_5 (n : Nat) (h1 : List (Nd)) (h2 : Int) (h3 : Bool) (h4 : List Int) (h5 : Int) (h6 : Int) (h7 : List tTopic.den) (h8 : Bool) (h9 : List Int) (h10 : Int) (h11 : Int) (h12 : List tTopic.den) : itzReqOf_5 (n + 1) h1 h2 h3 h4 h5 h6 h7 h8 h9 h10 h11 h12 = stepzReqOf_5 h1 h2 h3 h4 h5 h6 h7 h8 h9 h10 h11 h12 (itzReqOf_5 n) some := by kernel_rfl
theorem loopzReqOf_10 {ps : List Nd} (hb : spWts ps ≤ 4294967296) (tops : List Nd) (i : Int) (nz0 : Bool) (ns0 : List Int) (ak0 : Int) (wt0 : Int) (ts0 : List tTopic.den) (nz : Bool) (ns : List Int) (ak : Int) (wt : Int) (ts : List tTopic.den) (tn : List Int) : ∀ (k j : Nat) (o : List tPart.den), ps.length < j + k → j ≤ ps.length → o.length ≤ j →
    itzReqOf_10 k tops i ps j nz0 ns0 ak0 wt0 ts0 nz ns ak wt ts tn o = some (.ret ((), ((tops, (i, ())), ((nz0, (ns0, (ak0, (wt0, (ts0, ()))))), ((nz, (ns, (ak, (wt, (ts, ()))))), ((tn, (o ++ (ps.drop j).map spPartOf, ())), ())))))) := by
  intro k
  have hlen := spWts_len ps
  induction k with
  | zero => intro j o h1 h2; omega
  | succ k ih =>
    intro j o h1 h2 h3
    rw [slzReqOf_10]
    unfold stepzReqOf_10
    by_cases hj : j < ps.length
    · refine (bif_true (decide_eq_true (show (j : Int) < (ps.length : Int) by omega)) _ _).trans ?_
      have hmem := spWt_mem (List.getElem_mem hj)
      have ih' := ih (j + 1) (o ++ [spPartOf ps[j]]) (by omega) (by omega) (by simp; omega)
      have hd : ps.drop j = ps[j] :: ps.drop (j + 1) := List.drop_eq_getElem_cons hj
      rw [hd, wrap_i64 (n := (j : Int) + 1) (by omega) (by omega)]
      simp only [Int.toNat_natCast, getD_lt hj]
      generalize ps[j] = u at hmem ih' ⊢
      obtain ⟨ul, uk⟩ := u
      refine (bif_true (by simp; omega) _ _).trans ?_
      refine (bif_true (by simp; omega) _ _).trans ?_
      refine (bif_true (decide_eq_true (show (spAt (Tre.mk ul uk) 1).lab.2.2.2.1.length ≤ 4294967296 by have := spAt_wt (Tre.mk ul uk) 1; have := spWt_data (spAt (Tre.mk ul uk) 1); omega)) _ _).trans ?_
      refine (bif_true (decide_eq_true (show o.length + 1 ≤ 4294967296 by omega)) _ _).trans ?_
      refine ih'.trans ?_
      simp only [List.map_cons, List.append_assoc, List.singleton_append]
    · refine (bif_false (decide_eq_false (show ¬ (j : Int) < (ps.length : Int) by omega)) _ _).trans ?_
      rw [List.drop_of_length_le (by omega)]
      simp
theorem loopzReqOf_5 {nds : List Nd} (hb : spWts nds ≤ 4294967296) (nz0 : Bool) (ns0 : List Int) (ak0 : Int) (wt0 : Int) (ts0 : List tTopic.den) (nz : Bool) (ns : List Int) (ak : Int) (wt : Int) : ∀ (k j : Nat) (ts : List tTopic.den), nds.length < j + k → j ≤ nds.length → ts.length ≤ j →
    itzReqOf_5 k nds j nz0 ns0 ak0 wt0 ts0 nz ns ak wt ts = some (.ret ((), ((), ((nz0, (ns0, (ak0, (wt0, (ts0, ()))))), ((nz, (ns, (ak, (wt, (ts ++ (nds.drop j).map spTopicOf, ()))))), ()))))) := by
  intro k
  have hlen := spWts_len nds
  induction k with
  | zero => intro j o h1 h2; omega
  | succ k ih =>
    intro j ts h1 h2 h3
    rw [slzReqOf_5]
    unfold stepzReqOf_5
    by_cases hj : j < nds.length
    · refine (bif_true (decide_eq_true (show (j : Int) < (nds.length : Int) by omega)) _ _).trans ?_
      have hmem := spWt_mem (List.getElem_mem hj)
      have ih' := ih (j + 1) (ts ++ [spTopicOf nds[j]]) (by omega) (by omega) (by simp; omega)
      have hd : nds.drop j = nds[j] :: nds.drop (j + 1) := List.drop_eq_getElem_cons hj
      rw [hd]
      simp only [Int.toNat_natCast, getD_lt hj]
      generalize nds[j] = u at hmem ih' ⊢
      obtain ⟨ul, uk⟩ := u
      refine (bif_true (by simp; omega) _ _).trans ?_
      refine (bif_true (by simp; omega) _ _).trans ?_
      have hw1 := spAt_wt (Tre.mk ul uk) 1
      have hw2 := spWts_kids (spAt (Tre.mk ul uk) 1)
      have cA : ((decide ((0 : Int) = 0) && decide (([] : List tPart.den).length = 0)) && decide (spWts (spAt (Tre.mk ul uk) 1).kids ≤ 4294967296)) = true := by simp; omega
      refine (bif_true cA _ _).trans ?_
      refine (bif_true (decide_eq_true (show ts.length + 1 ≤ 4294967296 by omega)) _ _).trans ?_
      rw [wrap_i64 (n := (j : Int) + 1) (by omega) (by omega)]
      refine ih'.trans ?_
      simp only [List.map_cons, List.append_assoc, List.singleton_append]
    · refine (bif_false (decide_eq_false (show ¬ (j : Int) < (nds.length : Int) by omega)) _ _).trans ?_
      rw [List.drop_of_length_le (by omega)]
      simp
def bodyzReqOf (a0 : Nd) : Option iozReqOf.Res := (FzReqOf_5 (((spAt (Tre.mk a0.1 a0.2) 3).2, (0, ())), ((false, ([], (0, (0, ([], ()))))), (((spAt (Tre.mk a0.1 a0.2) 0).1.snd.snd.fst, ((spAt (Tre.mk a0.1 a0.2) 0).1.snd.snd.snd.fst, (IntKind.i16.wrap (spAt (Tre.mk a0.1 a0.2) 1).1.snd.fst, (IntKind.i32.wrap (spAt (Tre.mk a0.1 a0.2) 2).1.snd.fst, ([], ()))))), ())))).run fun y => match y with | .ret ((), ((), (x95, x96, x97, x98, x99, ()), (x100, x101, x102, x103, x104, ()), ())) => (some (Out.ret ((((x100, x101, ()), x102, x103, x104, ()), ()), ())))
theorem runzReqOf (a0 : Nd) : Io.run tt hdzReqOf dr lpzReqOf iozReqOf Go.Proofs.Tryz.f32 ((a0, ()), ()) = bodyzReqOf a0 := by kernel_rfl
theorem okzReqOf : HcOk prog 32 (ioHd iozReqOf FzReqOf) := by
  refine fn_sound (n := 400) hm (cs := cszReqOf) (.cons oktAt (.cons oktNameOf (.cons oktBlobOf .nil))) (lp := lpzReqOf) (fn := Go.Proofs.Tryz.f32) (by kernel_rfl) (by kernel_rfl) (by kernel_rfl) iozReqOf (.step (h0 := loHd lozReqOf_5 FzReqOf_5) (by kernel_rfl) (loop_sound (n := 400) hm (cs := cszReqOf) (.cons oktAt (.cons oktNameOf (.cons oktBlobOf .nil))) (lp := lpzReqOf) (fn := Go.Proofs.Tryz.f32) (.step (h0 := loHd lozReqOf_10 FzReqOf_10) (by kernel_rfl) (loop_sound (n := 400) hm (cs := cszReqOf) (.cons oktAt (.cons oktNameOf (.cons oktBlobOf .nil))) (lp := lpzReqOf) (fn := Go.Proofs.Tryz.f32) (.done (by kernel_rfl)) lozReqOf_10 FzReqOf_10 ?_) (.done (by kernel_rfl))) lozReqOf_5 FzReqOf_5 ?_) (.done (by kernel_rfl))) FzReqOf ?_
  · rintro ⟨⟨(tops : List Nd), (i : Int), (ps : List Nd), (j : Int), ⟨⟩⟩, ⟨⟨(nz0 : Bool), (ns0 : List Int), (ak0 : Int), (wt0 : Int), (ts0 : List tTopic.den), ⟨⟩⟩, ⟨(nz : Bool), (ns : List Int), (ak : Int), (wt : Int), (ts : List tTopic.den), ⟨⟩⟩, ⟨(tn : List Int), (o : List tPart.den), ⟨⟩⟩, ⟨⟩⟩⟩ y hw hy
    obtain ⟨hg, hy⟩ := Tr.guard hy
    simp only [Bool.and_eq_true, decide_eq_true_eq] at hg
    obtain ⟨⟨h1, h2⟩, h3⟩ := hg
    have h1 : j = 0 := h1
    have h2 : o = [] := List.eq_nil_of_length_eq_zero h2
    have h3 : spWts ps ≤ 4294967296 := h3
    subst h1
    subst h2
    refine ⟨ps.length + 1, (loopzReqOf_10 h3 tops i nz0 ns0 ak0 wt0 ts0 nz ns ak wt ts tn (ps.length + 1) 0 [] (by omega) (by omega) (by simp)).trans ?_⟩
    rw [← hy, List.drop_zero]
    rfl
  · rintro ⟨⟨(nds : List Nd), (j : Int), ⟨⟩⟩, ⟨⟨(nz0 : Bool), (ns0 : List Int), (ak0 : Int), (wt0 : Int), (ts0 : List tTopic.den), ⟨⟩⟩, ⟨(nz : Bool), (ns : List Int), (ak : Int), (wt : Int), (ts : List tTopic.den), ⟨⟩⟩, ⟨⟩⟩⟩ y hw hy
    obtain ⟨hg, hy⟩ := Tr.guard hy
    simp only [Bool.and_eq_true, decide_eq_true_eq] at hg
    obtain ⟨⟨h1, h2⟩, h3⟩ := hg
    have h1 : j = 0 := h1
    have h2 : ts = [] := List.eq_nil_of_length_eq_zero h2
    have h3 : spWts nds ≤ 4294967296 := h3
    subst h1
    subst h2
    refine ⟨nds.length + 1, (loopzReqOf_5 h3 nz0 ns0 ak0 wt0 ts0 nz ns ak wt (nds.length + 1) 0 [] (by omega) (by omega) (by simp)).trans ?_⟩
    rw [← hy, List.drop_zero]
    rfl
  · rintro ⟨⟨(n : Nd), ⟨⟩⟩, ⟨⟩⟩ out hw ho
    obtain ⟨hg, ho⟩ := Tr.guard ho
    have hg : spWt n ≤ 4294967296 := of_decide_eq_true hg
    cases ho
    refine (runzReqOf n).trans ?_
    unfold bodyzReqOf
    obtain ⟨nl, nk⟩ := n
    have hw1 := spAt_wt (Tre.mk nl nk) 3
    have hw2 := spWts_kids (spAt (Tre.mk nl nk) 3)
    have c1 : ((decide ((0 : Int) = 0) && decide (([] : List tTopic.den).length = 0)) && decide (spWts (spAt (Tre.mk nl nk) 3).kids ≤ 4294967296)) = true := by simp; omega
    refine (bif_true c1 _ _).trans ?_
    show _ = some (Out.ret ((spReqOf (Tre.mk nl nk), ()), ()))
    unfold spReqOf
    rfl
abbrev iozFullRep : Io := ⟨[.dat tRep true false], [], [], [dNode], none⟩
def spLensRep (l : List tGone.den) : Bool := decide (l.length ≤ 4294967296) && l.all fun t => decide (t.2.1.length ≤ 4294967296)
def FzFullRep (d : iozFullRep.In) : Tr iozFullRep.Res := .ite (spLensRep d.1.1.1) (.ret (.ret ((spFullRep d.1.1, ()), ()))) .no
abbrev cszFullRep : List (Nat × Hc) := [(92, ioHd iotNum FtNum), (93, ioHd iotNBytes FtNBytes), (91, ioHd iotRow FtRow), (94, ioHd iotText FtText), (95, ioHd iotRows FtRows), (96, ioHd iotNText FtNText)]
def hdzFullRep : Hd := hdT cszFullRep
abbrev lozFullRep_8 : Lo := ⟨⟨[.any, .one (.ptr 1 0), .one (.ptr 2 0), .one (.onl 68 tNode 7), .one (.hol (.int IntKind.i64)), .one (.onl 68 tNode 11), .one (.hol (.int IntKind.i64)), .any, .any, .any, .any, .any, .any, .any, .any, .any, .any, .any, .any, .any, .any, .any, .any, .any, .any, .any, .any, .any, .any, .any, .any, .any, .any, .any, .any, .any, .any, .any, .any, .any, .any, .any, .any, .any, .any, .any, .any, .any, .any, .any, .any, .any, .any, .any, .any, .any, .any, .any, .any, .any, .any, .any, .any, .any, .any, .any, .any, .any, .any, .any, .any, .any, .any, .any, .any, .any, .any, .any, .any, .any, .any, .any, .any], [none, some [.hol (.sl 103 tGone), .hol (.int IntKind.i32)], some [.hol (.int IntKind.i64), .hol (.int IntKind.i64), .hol .bool, .onl 5 (Ty.int IntKind.u8) 1032, .onl 68 tNode 1034]]⟩, [(.exit 2, ⟨[.any, .one (.ptr 1 0), .one (.ptr 2 0), .one (.onl 68 tNode 7), .one (.hol (.int IntKind.i64)), .one (.onl 68 tNode 11), .any, .any, .any, .any, .any, .any, .any, .any, .any, .any, .any, .any, .any, .any, .any, .any, .any, .any, .any, .any, .any, .any, .any, .any, .any, .any, .any, .any, .any, .any, .any, .any, .any, .any, .any, .any, .any, .any, .any, .any, .any, .any, .any, .any, .any, .any, .any, .any, .any, .any, .any, .any, .any, .any, .any, .any, .any, .any, .any, .any, .any, .any, .any, .any, .any, .any, .any, .any, .any, .any, .any, .any, .any, .any, .any, .any, .any], [none, some [.hol (.sl 103 tGone), .hol (.int IntKind.i32)], some [.hol (.int IntKind.i64), .hol (.int IntKind.i64), .hol .bool, .onl 5 (Ty.int IntKind.u8) 1032, .onl 68 tNode 1034]]⟩)]⟩
-- FzFullRep_8 : lozFullRep_8.st.den → Tr (DenX lozFullRep_8.xs) | ((h11, (h12, (h13, (h14, ())))), ((h15, (h16, ())), ((h17, (h18, (h19, (h20, (h21, ()))))), ())))
abbrev lozFullRep_4 : Lo := ⟨⟨[.any, .one (.ptr 1 0), .one (.ptr 2 0), .one (.onl 68 tNode 7), .one (.hol (.int IntKind.i64)), .any, .any, .any, .any, .any, .any, .any, .any, .any, .any, .any, .any, .any, .any, .any, .any, .any, .any, .any, .any, .any, .any, .any, .any, .any, .any, .any, .any, .any, .any, .any, .any, .any, .any, .any, .any, .any, .any, .any, .any, .any, .any, .any, .any, .any, .any, .any, .any, .any, .any, .any, .any, .any, .any, .any, .any, .any, .any, .any, .any, .any, .any, .any, .any, .any, .any, .any, .any, .any, .any, .any, .any, .any, .any, .any, .any, .any, .any], [none, some [.hol (.sl 103 tGone), .hol (.int IntKind.i32)], some [.hol (.int IntKind.i64), .hol (.int IntKind.i64), .hol .bool, .onl 5 (Ty.int IntKind.u8) 1032, .onl 68 tNode 1034]]⟩, [(.exit 0, ⟨[.any, .one (.ptr 1 0), .one (.ptr 2 0), .one (.onl 68 tNode 7), .any, .any, .any, .any, .any, .any, .any, .any, .any, .any, .any, .any, .any, .any, .any, .any, .any, .any, .any, .any, .any, .any, .any, .any, .any, .any, .any, .any, .any, .any, .any, .any, .any, .any, .any, .any, .any, .any, .any, .any, .any, .any, .any, .any, .any, .any, .any, .any, .any, .any, .any, .any, .any, .any, .any, .any, .any, .any, .any, .any, .any, .any, .any, .any, .any, .any, .any, .any, .any, .any, .any, .any, .any, .any, .any, .any, .any, .any, .any], [none, some [.hol (.sl 103 tGone), .hol (.int IntKind.i32)], some [.hol (.int IntKind.i64), .hol (.int IntKind.i64), .hol .bool, .onl 5 (Ty.int IntKind.u8) 1032, .onl 68 tNode 1034]]⟩)]⟩
-- FzFullRep_4 : lozFullRep_4.st.den → Tr (DenX lozFullRep_4.xs) | ((h2, (h3, ())), ((h4, (h5, ())), ((h6, (h7, (h8, (h9, (h10, ()))))), ())))
def FzFullRep_8 (d : lozFullRep_8.st.den) : Tr (DenX lozFullRep_8.xs) :=
  .ite ((decide ((0 : Int) ≤ d.1.2.1) && decide (d.1.2.1 < (d.2.1.1.length : Int))) && ((decide (d.1.2.2.1.length = 0) && decide (d.1.2.2.2.1 = 0)) && decide ((d.2.1.1.getD d.1.2.1.toNat tGone.zero).2.1.length ≤ 4294967296)))
    (.ret (.ret ((), ((d.1.1, (d.1.2.1, ((d.2.1.1.getD d.1.2.1.toNat tGone.zero).2.1.map spFDone, ()))), (d.2.1, (d.2.2.1, ())))))) .no
def FzFullRep_4 (d : lozFullRep_4.st.den) : Tr (DenX lozFullRep_4.xs) :=
  .ite ((decide (d.1.1.length = 0) && decide (d.1.2.1 = 0)) && spLensRep d.2.1.1)
    (.ret (.ret ((), ((d.2.1.1.map spFGone, ()), (d.2.1, (d.2.2.1, ())))))) .no
def lpzFullRep : Lp := lpT [(4, loHd lozFullRep_4 FzFullRep_4), (8, loHd lozFullRep_8 FzFullRep_8)]
def stepzFullRep_8 {R : Type} (h11 : List tNode.den) (h12 : Int) (h13 : List tNode.den) (h14 : Int) (h15 : List tGone.den) (h16 : Int) (h17 : Int) (h18 : Int) (h19 : Bool) (h20 : List Int) (h21 : List tNode.den) (next : List tNode.den → Int → List tNode.den → Int → List tGone.den → Int → Int → Int → Bool → List Int → List tNode.den → Option R) (out : DenX lozFullRep_8.xs → Option R) : Option R := bif decide (0 ≤ h12) && decide (h12 < (↑h15.length : Int)) then bif decide (h14 < (↑(List.length (h15.getD h12.toNat ([], [], ())).snd.fst) : Int)) then bif decide (0 ≤ h12) && decide (h12 < (↑h15.length : Int)) then bif decide (0 ≤ h14) && decide (h14 < (↑(List.length (h15.getD h12.toNat ([], [], ())).snd.fst) : Int)) then bif decide (h13.length + 1 ≤ 4294967296) then next (h11) (h12) (h13 ++ [Tre.mk (10, 0, false, [], ()) [Tre.mk (3, IntKind.i64.wrap (List.getD (h15.getD h12.toNat ([], [], ())).snd.fst h14.toNat (0, 0, 0, 0, 0, ())).fst, false, [], ()) [], Tre.mk (2, IntKind.i64.wrap (List.getD (h15.getD h12.toNat ([], [], ())).snd.fst h14.toNat (0, 0, 0, 0, 0, ())).snd.fst, false, [], ()) [], Tre.mk (4, (List.getD (h15.getD h12.toNat ([], [], ())).snd.fst h14.toNat (0, 0, 0, 0, 0, ())).snd.snd.fst, false, [], ()) [], Tre.mk (4, (List.getD (h15.getD h12.toNat ([], [], ())).snd.fst h14.toNat (0, 0, 0, 0, 0, ())).snd.snd.snd.fst, false, [], ()) [], Tre.mk (4, (List.getD (h15.getD h12.toNat ([], [], ())).snd.fst h14.toNat (0, 0, 0, 0, 0, ())).snd.snd.snd.snd.fst, false, [], ()) []]]) (IntKind.i64.wrap (h14 + 1)) (h15) (h16) (h17) (h18) (h19) (h20) (h21) else none else none else none else out (.ret ((), ((h11, (h12, (h13, ()))), ((h15, (h16, ())), ((h17, (h18, (h19, (h20, (h21, ()))))), ()))))) else none
def itzFullRep_8 (n : Nat) (h11 : List tNode.den) (h12 : Int) (h13 : List tNode.den) (h14 : Int) (h15 : List tGone.den) (h16 : Int) (h17 : Int) (h18 : Int) (h19 : Bool) (h20 : List Int) (h21 : List tNode.den) : Option (DenX lozFullRep_8.xs) := lpN tt hdzFullRep dr lpzFullRep 0 Go.Proofs.Tryz.f53 (subL Go.Proofs.Tryz.f53 (topL Go.Proofs.Tryz.f53 0) 0) n (lozFullRep_8.st.mk' ((h11, (h12, (h13, (h14, ())))), ((h15, (h16, ())), ((h17, (h18, (h19, (h20, (h21, ()))))), ())))) (decX lozFullRep_8.xs)
theorem slzFullRep_8 (n : Nat) (h11 : List tNode.den) (h12 : Int) (h13 : List tNode.den) (h14 : Int) (h15 : List tGone.den) (h16 : Int) (h17 : Int) (h18 : Int) (h19 : Bool) (h20 : List Int) (h21 : List tNode.den) : itzFullRep_8 (n + 1) h11 h12 h13 h14 h15 h16 h17 h18 h19 h20 h21 = stepzFullRep_8 h11 h12 h13 h14 h15 h16 h17 h18 h19 h20 h21 (itzFullRep_8 n) some := by kernel_rfl
def stepzFullRep_4 {R : Type} (h2 : List tNode.den) (h3 : Int) (h4 : List tGone.den) (h5 : Int) (h6 : Int) (h7 : Int) (h8 : Bool) (h9 : List Int) (h10 : List tNode.den) (next : List tNode.den → Int → List tGone.den → Int → Int → Int → Bool → List Int → List tNode.den → Option R) (out : DenX lozFullRep_4.xs → Option R) : Option R := bif decide (h3 < (↑h4.length : Int)) then (FzFullRep_8 ((h2, (h3, ([], (0, ())))), ((h4, (h5, ())), ((h6, (h7, (h8, (h9, (h10, ()))))), ())))).run fun y => match y with | .ret ((), ((x43, x44, x45, ()), (x46, x47, ()), (x48, x49, x50, x51, x52, ()), ())) => (bif decide (0 ≤ x44) && decide (x44 < (↑x46.length : Int)) then bif decide (x43.length + 1 ≤ 4294967296) then next (x43 ++ [Tre.mk (10, 0, false, [], ()) [Tre.mk (5, 0, false, (x46.getD x44.toNat ([], [], ())).fst, ()) [], Tre.mk (9, 0, false, [], ()) x45]]) (IntKind.i64.wrap (x44 + 1)) (x46) (x47) (x48) (x49) (x50) (x51) (x52) else none else none) else out (.ret ((), ((h2, ()), ((h4, (h5, ())), ((h6, (h7, (h8, (h9, (h10, ()))))), ())))))
def itzFullRep_4 (n : Nat) (h2 : List tNode.den) (h3 : Int) (h4 : List tGone.den) (h5 : Int) (h6 : Int) (h7 : Int) (h8 : Bool) (h9 : List Int) (h10 : List tNode.den) : Option (DenX lozFullRep_4.xs) := lpN tt hdzFullRep dr lpzFullRep 0 Go.Proofs.Tryz.f53 (topL Go.Proofs.Tryz.f53 0) n (lozFullRep_4.st.mk' ((h2, (h3, ())), ((h4, (h5, ())), ((h6, (h7, (h8, (h9, (h10, ()))))), ())))) (decX lozFullRep_4.xs)
theorem slzFullRep_4 (n : Nat) (h2 : List tNode.den) (h3 : Int) (h4 : List tGone.den) (h5 : Int) (h6 : Int) (h7 : Int) (h8 : Bool) (h9 : List Int) (h10 : List tNode.den) : itzFullRep_4 (n + 1) h2 h3 h4 h5 h6 h7 h8 h9 h10 = stepzFullRep_4 h2 h3 h4 h5 h6 h7 h8 h9 h10 (itzFullRep_4 n) some := by kernel_rfl
theorem loopzFullRep_8 {ts : List tGone.den} (hw : ∀ t ∈ ts, tGone.wf t) (hl : ts.length ≤ maxLen) {i : Nat} (hi : i < ts.length) (hp : (ts[i]).2.1.length ≤ 4294967296) (acc : List Nd) (th : Int) (a' b' : Int) (z' : Bool) (x' : List Int) (l' : List Nd) : ∀ (k j : Nat) (o : List Nd), (ts[i]).2.1.length < j + k → j ≤ (ts[i]).2.1.length → o.length ≤ j →
    itzFullRep_8 k acc i o j ts th a' b' z' x' l' = some (.ret ((), ((acc, ((i : Int), (o ++ ((ts[i]).2.1.drop j).map spFDone, ()))), ((ts, (th, ())), ((a', (b', (z', (x', (l', ()))))), ()))))) := by
  intro k
  induction k with
  | zero => intro j o h1 h2; omega
  | succ k ih =>
    intro j o h1 h2 h3
    rw [slzFullRep_8]
    unfold stepzFullRep_8
    refine (bif_true (by simp; omega) _ _).trans ?_
    have hti := hw _ (List.getElem_mem hi)
    simp only [Int.toNat_natCast, getD_lt hi]
    generalize ts[i] = t at hp h1 h2 ih hti ⊢
    by_cases hj : j < t.2.1.length
    · refine (bif_true (decide_eq_true (show (j : Int) < (t.2.1.length : Int) by omega)) _ _).trans ?_
      refine (bif_true (by simp; omega) _ _).trans ?_
      refine (bif_true (by simp; omega) _ _).trans ?_
      refine (bif_true (decide_eq_true (show o.length + 1 ≤ 4294967296 by omega)) _ _).trans ?_
      have hpw := hti.2.1.2 _ (List.getElem_mem hj)
      have ih' := ih (j + 1) (o ++ [spFDone t.2.1[j]]) (by omega) (by omega) (by simp; omega)
      have hd : t.2.1.drop j = t.2.1[j] :: t.2.1.drop (j + 1) := List.drop_eq_getElem_cons hj
      rw [hd, wrap_i64 (n := (j : Int) + 1) (by omega) (by omega)]
      have hgp : List.getD t.2.1 ((j : Int)).toNat tDone.zero = t.2.1[j] := by simp only [Int.toNat_natCast]; exact getD_lt hj

      refine Eq.trans ?_ (ih'.trans ?_)
      · refine congrArg (fun x => itzFullRep_8 k acc i (o ++ [x]) _ ts th a' b' z' x' l') ?_
        show ndRow [ndNum 3 (IntKind.i64.wrap (List.getD t.2.1 ((j : Int)).toNat tDone.zero).1), ndNum 2 (IntKind.i64.wrap (List.getD t.2.1 ((j : Int)).toNat tDone.zero).2.1), ndNum 4 (List.getD t.2.1 ((j : Int)).toNat tDone.zero).2.2.1, ndNum 4 (List.getD t.2.1 ((j : Int)).toNat tDone.zero).2.2.2.1, ndNum 4 (List.getD t.2.1 ((j : Int)).toNat tDone.zero).2.2.2.2.1] = _
        rw [hgp]
        exact spFDone_eq hpw
      · simp only [List.map_cons, List.append_assoc, List.singleton_append]
    · refine (bif_false (decide_eq_false (show ¬ (j : Int) < (t.2.1.length : Int) by omega)) _ _).trans ?_
      rw [List.drop_of_length_le (by omega)]
      simp
theorem loopzFullRep_4 {ts : List tGone.den} (hw : ∀ t ∈ ts, tGone.wf t) (hl : ts.length ≤ maxLen) (hs : spLensRep ts = true) (th : Int) (a' b' : Int) (z' : Bool) (x' : List Int) (l' : List Nd) : ∀ (k j : Nat) (o : List Nd), ts.length < j + k → j ≤ ts.length → o.length ≤ j →
    itzFullRep_4 k o j ts th a' b' z' x' l' = some (.ret ((), ((o ++ (ts.drop j).map spFGone, ()), ((ts, (th, ())), ((a', (b', (z', (x', (l', ()))))), ()))))) := by
  intro k
  have hs1 := (Bool.and_eq_true _ _ ▸ hs).1
  have hs2 := (Bool.and_eq_true _ _ ▸ hs).2
  have hs1 : ts.length ≤ 4294967296 := of_decide_eq_true hs1
  induction k with
  | zero => intro j o h1 h2; omega
  | succ k ih =>
    intro j o h1 h2 h3
    rw [slzFullRep_4]
    unfold stepzFullRep_4
    by_cases hj : j < ts.length
    · refine (bif_true (decide_eq_true (show (j : Int) < (ts.length : Int) by omega)) _ _).trans ?_
      have hgp : ts.getD ((j : Int)).toNat tGone.zero = ts[j] := by simp only [Int.toNat_natCast]; exact getD_lt hj
      have hpl : (ts[j]).2.1.length ≤ 4294967296 := of_decide_eq_true (List.all_eq_true.1 hs2 _ (List.getElem_mem hj))
      have c8 : ((decide ((0 : Int) ≤ (j : Int)) && decide ((j : Int) < (ts.length : Int))) && ((decide (([] : List Nd).length = 0) && decide ((0 : Int) = 0)) && decide ((ts.getD ((j : Int)).toNat tGone.zero).2.1.length ≤ 4294967296))) = true := by
        rw [hgp]; simp; omega
      refine (bif_true c8 _ _).trans ?_
      refine (bif_true (by simp; omega) _ _).trans ?_
      refine (bif_true (decide_eq_true (show o.length + 1 ≤ 4294967296 by omega)) _ _).trans ?_
      rw [wrap_i64 (n := (j : Int) + 1) (by omega) (by omega)]
      have ih' := ih (j + 1) (o ++ [spFGone ts[j]]) (by omega) (by omega) (by simp; omega)
      have hd : ts.drop j = ts[j] :: ts.drop (j + 1) := List.drop_eq_getElem_cons hj
      rw [hd]
      refine Eq.trans ?_ (ih'.trans ?_)
      · refine congrArg (fun x => itzFullRep_4 k (o ++ [x]) _ ts th a' b' z' x' l') ?_
        show (ndRow [ndText (ts.getD ((j : Int)).toNat tGone.zero).1, ndRows ((ts.getD ((j : Int)).toNat tGone.zero).2.1.map spFDone)]) = _
        rw [hgp]; rfl
      · simp only [List.map_cons, List.append_assoc, List.singleton_append]
    · refine (bif_false (decide_eq_false (show ¬ (j : Int) < (ts.length : Int) by omega)) _ _).trans ?_
      rw [List.drop_of_length_le (by omega)]
      simp
def bodyzFullRep (a0 : List tGone.den) (a1 : Int) : Option iozFullRep.Res := (FzFullRep_4 (([], (0, ())), ((a0, (a1, ())), ((0, (0, (false, ([], ([], ()))))), ())))).run fun y => match y with | .ret ((), ((x70, ()), (x71, x72, ()), (x73, x74, x75, x76, x77, ()), ())) => (some (Out.ret ((Tre.mk (10, 0, false, [], ()) [Tre.mk (9, 0, false, [], ()) x70, Tre.mk (3, IntKind.i64.wrap x72, false, [], ()) []], ()), ())))
theorem runzFullRep (a0 : List tGone.den) (a1 : Int) : Io.run tt hdzFullRep dr lpzFullRep iozFullRep Go.Proofs.Tryz.f53 (((a0, a1, ()), ()), ()) = bodyzFullRep a0 a1 := by kernel_rfl
theorem okzFullRep : HcOk prog 53 (ioHd iozFullRep FzFullRep) := by
  refine fn_sound (n := 400) hm (cs := cszFullRep) (.cons oktNum (.cons oktNBytes (.cons oktRow (.cons oktText (.cons oktRows (.cons oktNText .nil)))))) (lp := lpzFullRep) (fn := Go.Proofs.Tryz.f53) (by kernel_rfl) (by kernel_rfl) (by kernel_rfl) iozFullRep (.step (h0 := loHd lozFullRep_4 FzFullRep_4) (by kernel_rfl) (loop_sound (n := 400) hm (cs := cszFullRep) (.cons oktNum (.cons oktNBytes (.cons oktRow (.cons oktText (.cons oktRows (.cons oktNText .nil)))))) (lp := lpzFullRep) (fn := Go.Proofs.Tryz.f53) (.step (h0 := loHd lozFullRep_8 FzFullRep_8) (by kernel_rfl) (loop_sound (n := 400) hm (cs := cszFullRep) (.cons oktNum (.cons oktNBytes (.cons oktRow (.cons oktText (.cons oktRows (.cons oktNText .nil)))))) (lp := lpzFullRep) (fn := Go.Proofs.Tryz.f53) (.done (by kernel_rfl)) lozFullRep_8 FzFullRep_8 ?_) (.done (by kernel_rfl))) lozFullRep_4 FzFullRep_4 ?_) (.done (by kernel_rfl))) FzFullRep ?_
  · rintro ⟨⟨(acc : List Nd), (i : Int), (o : List Nd), (j : Int), ⟨⟩⟩, ⟨⟨(ts : List tGone.den), (th : Int), ⟨⟩⟩, ⟨(a' : Int), (b' : Int), (z' : Bool), (x' : List Int), (l' : List Nd), ⟨⟩⟩, ⟨⟩⟩⟩ y hw hy
    obtain ⟨hg, hy⟩ := Tr.guard hy
    simp only [Bool.and_eq_true, decide_eq_true_eq] at hg
    obtain ⟨⟨h1, h2⟩, ⟨h3, h4⟩, h5⟩ := hg
    have h1 : 0 ≤ i := h1
    have h2 : i < (ts.length : Int) := h2
    have h3 : o = [] := List.eq_nil_of_length_eq_zero h3
    have h4 : j = 0 := h4
    obtain ⟨i, rfl⟩ := toNat_of h1
    subst h3
    subst h4
    have hi : i < ts.length := by omega
    have hgp : ts.getD ((i : Int)).toNat tGone.zero = ts[i] := by simp only [Int.toNat_natCast]; exact getD_lt hi
    have h5 : (ts.getD ((i : Int)).toNat tGone.zero).2.1.length ≤ 4294967296 := h5
    rw [hgp] at h5
    have hwt : ts.length ≤ maxLen ∧ ∀ t ∈ ts, tGone.wf t := by have := hw.2.1.1; exact this
    refine ⟨(ts[i]).2.1.length + 1, (loopzFullRep_8 hwt.2 hwt.1 hi h5 acc th a' b' z' x' l' ((ts[i]).2.1.length + 1) 0 [] (by omega) (by omega) (by simp)).trans ?_⟩
    rw [← hy, ← hgp, List.drop_zero]
    rfl
  · rintro ⟨⟨(o : List Nd), (j : Int), ⟨⟩⟩, ⟨⟨(ts : List tGone.den), (th : Int), ⟨⟩⟩, ⟨(a' : Int), (b' : Int), (z' : Bool), (x' : List Int), (l' : List Nd), ⟨⟩⟩, ⟨⟩⟩⟩ y hw hy
    obtain ⟨hg, hy⟩ := Tr.guard hy
    simp only [Bool.and_eq_true, decide_eq_true_eq] at hg
    obtain ⟨⟨h3, h4⟩, h5⟩ := hg
    have h3 : o = [] := List.eq_nil_of_length_eq_zero h3
    have h4 : j = 0 := h4
    have h5 : spLensRep ts = true := h5
    subst h3
    subst h4
    have hwt : ts.length ≤ maxLen ∧ ∀ t ∈ ts, tGone.wf t := by have := hw.2.1.1; exact this
    refine ⟨ts.length + 1, (loopzFullRep_4 hwt.2 hwt.1 h5 th a' b' z' x' l' (ts.length + 1) 0 [] (by omega) (by omega) (by simp)).trans ?_⟩
    rw [← hy, List.drop_zero]
    rfl
  · rintro ⟨⟨⟨(ts : List tGone.den), (th : Int), ⟨⟩⟩, ⟨⟩⟩, ⟨⟩⟩ out hw ho
    obtain ⟨hg, ho⟩ := Tr.guard ho
    have hg : spLensRep ts = true := hg
    cases ho
    refine (runzFullRep ts th).trans ?_
    unfold bodyzFullRep
    have c1 : ((decide (([] : List Nd).length = 0) && decide ((0 : Int) = 0)) && spLensRep ts) = true := by rw [hg]; rfl
    refine (bif_true c1 _ _).trans ?_
    show _ = some (Out.ret ((spFullRep (ts, (th, ())), ()), ()))
    unfold spFullRep
    have h1 : IntKind.i64.wrap th = th := i64_i32 hw.1.1.2.1
    show some (Out.ret ((ndRow [ndRows (ts.map spFGone), ndNum 3 (IntKind.i64.wrap th)], ()), ())) = _
    rw [h1]
abbrev iozRepOf : Io := ⟨[dNode], [], [], [.dat tRep true false], none⟩
def FzRepOf (d : iozRepOf.In) : Tr iozRepOf.Res := .ite (decide (spWt d.1.1 ≤ 4294967296)) (.ret (.ret ((spRepOf d.1.1, ()), ()))) .no
abbrev cszRepOf : List (Nat × Hc) := [(89, ioHd iotAt FtAt), (88, ioHd iotNameOf FtNameOf), (90, ioHd iotBlobOf FtBlobOf)]
def hdzRepOf : Hd := hdT cszRepOf
abbrev lozRepOf_10 : Lo := ⟨⟨[.any, .any, .one (.ptr 2 0), .one (.ptr 3 0), .one (.hol (.sl 68 tNode)), .one (.hol (.int IntKind.i64)), .one (.ptr 6 0), .one (.hol (.sl 68 tNode)), .one (.hol (.int IntKind.i64)), .any, .any, .any, .any, .any, .any, .any, .any, .any, .any, .any, .any, .any, .any, .any, .any, .any, .any, .any, .any, .any, .any, .any, .any, .any, .any, .any, .any, .any, .any, .any, .any, .any, .any, .any, .any, .any, .any, .any, .any, .any, .any, .any, .any, .any, .any, .any, .any, .any, .any, .any, .any, .any, .any, .any, .any, .any, .any, .any, .any, .any, .any, .any, .any, .any, .any, .any, .any, .any, .any, .any, .any, .any], [none, none, some [.onl 103 tGone 1026, .hol (.int IntKind.i32)], some [.onl 103 tGone 1538, .hol (.int IntKind.i32)], none, none, some [.hol .str, .onl 105 tDone 3076]]⟩, [(.exit 2, ⟨[.any, .any, .one (.ptr 2 0), .one (.ptr 3 0), .one (.hol (.sl 68 tNode)), .one (.hol (.int IntKind.i64)), .one (.ptr 6 0), .any, .any, .any, .any, .any, .any, .any, .any, .any, .any, .any, .any, .any, .any, .any, .any, .any, .any, .any, .any, .any, .any, .any, .any, .any, .any, .any, .any, .any, .any, .any, .any, .any, .any, .any, .any, .any, .any, .any, .any, .any, .any, .any, .any, .any, .any, .any, .any, .any, .any, .any, .any, .any, .any, .any, .any, .any, .any, .any, .any, .any, .any, .any, .any, .any, .any, .any, .any, .any, .any, .any, .any, .any, .any, .any], [none, none, some [.onl 103 tGone 1026, .hol (.int IntKind.i32)], some [.onl 103 tGone 1538, .hol (.int IntKind.i32)], none, none, some [.hol .str, .onl 105 tDone 3076]]⟩)]⟩
-- FzRepOf_10 : lozRepOf_10.st.den → Tr (DenX lozRepOf_10.xs) | ((h7, (h8, (h9, (h10, ())))), ((h11, (h12, ())), ((h13, (h14, ())), ((h15, (h16, ())), ()))))
abbrev lozRepOf_5 : Lo := ⟨⟨[.any, .any, .one (.ptr 2 0), .one (.ptr 3 0), .one (.hol (.sl 68 tNode)), .one (.hol (.int IntKind.i64)), .any, .any, .any, .any, .any, .any, .any, .any, .any, .any, .any, .any, .any, .any, .any, .any, .any, .any, .any, .any, .any, .any, .any, .any, .any, .any, .any, .any, .any, .any, .any, .any, .any, .any, .any, .any, .any, .any, .any, .any, .any, .any, .any, .any, .any, .any, .any, .any, .any, .any, .any, .any, .any, .any, .any, .any, .any, .any, .any, .any, .any, .any, .any, .any, .any, .any, .any, .any, .any, .any, .any, .any, .any, .any, .any, .any], [none, none, some [.onl 103 tGone 1026, .hol (.int IntKind.i32)], some [.onl 103 tGone 1538, .hol (.int IntKind.i32)]]⟩, [(.exit 0, ⟨[.any, .any, .one (.ptr 2 0), .one (.ptr 3 0), .any, .any, .any, .any, .any, .any, .any, .any, .any, .any, .any, .any, .any, .any, .any, .any, .any, .any, .any, .any, .any, .any, .any, .any, .any, .any, .any, .any, .any, .any, .any, .any, .any, .any, .any, .any, .any, .any, .any, .any, .any, .any, .any, .any, .any, .any, .any, .any, .any, .any, .any, .any, .any, .any, .any, .any, .any, .any, .any, .any, .any, .any, .any, .any, .any, .any, .any, .any, .any, .any, .any, .any, .any, .any, .any, .any, .any, .any], [none, none, some [.onl 103 tGone 1026, .hol (.int IntKind.i32)], some [.onl 103 tGone 1538, .hol (.int IntKind.i32)]]⟩)]⟩
-- FzRepOf_5 : lozRepOf_5.st.den → Tr (DenX lozRepOf_5.xs) | ((h1, (h2, ())), ((h3, (h4, ())), ((h5, (h6, ())), ())))
def FzRepOf_10 (d : lozRepOf_10.st.den) : Tr (DenX lozRepOf_10.xs) :=
  .ite ((decide (d.1.2.2.2.1 = 0) && decide (d.2.2.2.1.2.1.length = 0)) && decide (spWts d.1.2.2.1 ≤ 4294967296))
    (.ret (.ret ((), ((d.1.1, (d.1.2.1, ())), (d.2.1, (d.2.2.1, ((d.2.2.2.1.1, (d.1.2.2.1.map spDoneOf, ())), ()))))))) .no
def FzRepOf_5 (d : lozRepOf_5.st.den) : Tr (DenX lozRepOf_5.xs) :=
  .ite ((decide (d.1.2.1 = 0) && decide (d.2.2.1.1.length = 0)) && decide (spWts d.1.1 ≤ 4294967296))
    (.ret (.ret ((), ((), (d.2.1, ((d.1.1.map spGoneOf, (d.2.2.1.2.1, ())), ())))))) .no
def lpzRepOf : Lp := lpT [(5, loHd lozRepOf_5 FzRepOf_5), (10, loHd lozRepOf_10 FzRepOf_10)]
def stepzRepOf_10 {R : Type} (h7 : List (Nd)) (h8 : Int) (h9 : List (Nd)) (h10 : Int) (h11 : List tGone.den) (h12 : Int) (h13 : List tGone.den) (h14 : Int) (h15 : List Int) (h16 : List tDone.den) (next : List (Nd) → Int → List (Nd) → Int → List tGone.den → Int → List tGone.den → Int → List Int → List tDone.den → Option R) (out : DenX lozRepOf_10.xs → Option R) : Option R := bif decide (h10 < (↑h9.length : Int)) then bif decide (0 ≤ h10) && decide (h10 < (↑h9.length : Int)) then bif decide (h16.length + 1 ≤ 4294967296) then next (h7) (h8) (h9) (IntKind.i64.wrap (h10 + 1)) (h11) (h12) (h13) (h14) (h15) (h16 ++ [(IntKind.i32.wrap (spAt (Tre.mk (h9.getD h10.toNat (Tre.mk (0, 0, false, [], ()) [])).1 (h9.getD h10.toNat (Tre.mk (0, 0, false, [], ()) [])).2) 0).1.snd.fst, IntKind.i16.wrap (spAt (Tre.mk (h9.getD h10.toNat (Tre.mk (0, 0, false, [], ()) [])).1 (h9.getD h10.toNat (Tre.mk (0, 0, false, [], ()) [])).2) 1).1.snd.fst, (spAt (Tre.mk (h9.getD h10.toNat (Tre.mk (0, 0, false, [], ()) [])).1 (h9.getD h10.toNat (Tre.mk (0, 0, false, [], ()) [])).2) 2).1.snd.fst, (spAt (Tre.mk (h9.getD h10.toNat (Tre.mk (0, 0, false, [], ()) [])).1 (h9.getD h10.toNat (Tre.mk (0, 0, false, [], ()) [])).2) 3).1.snd.fst, (spAt (Tre.mk (h9.getD h10.toNat (Tre.mk (0, 0, false, [], ()) [])).1 (h9.getD h10.toNat (Tre.mk (0, 0, false, [], ()) [])).2) 4).1.snd.fst, ())]) else none else none else out (.ret ((), ((h7, (h8, ())), ((h11, (h12, ())), ((h13, (h14, ())), ((h15, (h16, ())), ()))))))
def itzRepOf_10 (n : Nat) (h7 : List (Nd)) (h8 : Int) (h9 : List (Nd)) (h10 : Int) (h11 : List tGone.den) (h12 : Int) (h13 : List tGone.den) (h14 : Int) (h15 : List Int) (h16 : List tDone.den) : Option (DenX lozRepOf_10.xs) := lpN tt hdzRepOf dr lpzRepOf 0 Go.Proofs.Tryz.f52 (subL Go.Proofs.Tryz.f52 (topL Go.Proofs.Tryz.f52 0) 0) n (lozRepOf_10.st.mk' ((h7, (h8, (h9, (h10, ())))), ((h11, (h12, ())), ((h13, (h14, ())), ((h15, (h16, ())), ()))))) (decX lozRepOf_10.xs)
theorem slzRepOf_10 (n : Nat) (h7 : List (Nd)) (h8 : Int) (h9 : List (Nd)) (h10 : Int) (h11 : List tGone.den) (h12 : Int) (h13 : List tGone.den) (h14 : Int) (h15 : List Int) (h16 : List tDone.den) : itzRepOf_10 (n + 1) h7 h8 h9 h10 h11 h12 h13 h14 h15 h16 = stepzRepOf_10 h7 h8 h9 h10 h11 h12 h13 h14 h15 h16 (itzRepOf_10 n) some := by kernel_rfl
def stepzRepOf_5 {R : Type} (h1 : List (Nd)) (h2 : Int) (h3 : List tGone.den) (h4 : Int) (h5 : List tGone.den) (h6 : Int) (next : List (Nd) → Int → List tGone.den → Int → List tGone.den → Int → Option R) (out : DenX lozRepOf_5.xs → Option R) : Option R := bif decide (h2 < (↑h1.length : Int)) then bif decide (0 ≤ h2) && decide (h2 < (↑h1.length : Int)) then bif decide (0 ≤ h2) && decide (h2 < (↑h1.length : Int)) then (FzRepOf_10 ((h1, (h2, ((spAt (Tre.mk (h1.getD h2.toNat (Tre.mk (0, 0, false, [], ()) [])).1 (h1.getD h2.toNat (Tre.mk (0, 0, false, [], ()) [])).2) 1).2, (0, ())))), ((h3, (h4, ())), ((h5, (h6, ())), (((spAt (Tre.mk (h1.getD h2.toNat (Tre.mk (0, 0, false, [], ()) [])).1 (h1.getD h2.toNat (Tre.mk (0, 0, false, [], ()) [])).2) 0).1.snd.snd.snd.fst, ([], ())), ()))))).run fun y => match y with | .ret ((), ((x35, x36, ()), (x37, x38, ()), (x39, x40, ()), (x41, x42, ()), ())) => (bif decide (x39.length + 1 ≤ 4294967296) then next (x35) (IntKind.i64.wrap (x36 + 1)) (x37) (x38) (x39 ++ [(x41, x42, ())]) (x40) else none) else none else none else out (.ret ((), ((), ((h3, (h4, ())), ((h5, (h6, ())), ())))))
def itzRepOf_5 (n : Nat) (h1 : List (Nd)) (h2 : Int) (h3 : List tGone.den) (h4 : Int) (h5 : List tGone.den) (h6 : Int) : Option (DenX lozRepOf_5.xs) := lpN tt hdzRepOf dr lpzRepOf 0 Go.Proofs.Tryz.f52 (topL Go.Proofs.Tryz.f52 0) n (lozRepOf_5.st.mk' ((h1, (h2, ())), ((h3, (h4, ())), ((h5, (h6, ())), ())))) (decX lozRepOf_5.xs)
theorem slzRepOf_5 (n : Nat) (h1 : List (Nd)) (h2 : Int) (h3 : List tGone.den) (h4 : Int) (h5 : List tGone.den) (h6 : Int) : itzRepOf_5 (n + 1) h1 h2 h3 h4 h5 h6 = stepzRepOf_5 h1 h2 h3 h4 h5 h6 (itzRepOf_5 n) some := by kernel_rfl
theorem loopzRepOf_10 {ps : List Nd} (hb : spWts ps ≤ 4294967296) (tops : List Nd) (i : Int) (ts0 : List tGone.den) (th0 : Int) (ts : List tGone.den) (th : Int) (tn : List Int) : ∀ (k j : Nat) (o : List tDone.den), ps.length < j + k → j ≤ ps.length → o.length ≤ j →
    itzRepOf_10 k tops i ps j ts0 th0 ts th tn o = some (.ret ((), ((tops, (i, ())), ((ts0, (th0, ())), ((ts, (th, ())), ((tn, (o ++ (ps.drop j).map spDoneOf, ())), ())))))) := by
  intro k
  have hlen := spWts_len ps
  induction k with
  | zero => intro j o h1 h2; omega
  | succ k ih =>
    intro j o h1 h2 h3
    rw [slzRepOf_10]
    unfold stepzRepOf_10
    by_cases hj : j < ps.length
    · refine (bif_true (decide_eq_true (show (j : Int) < (ps.length : Int) by omega)) _ _).trans ?_
      have hmem := spWt_mem (List.getElem_mem hj)
      have ih' := ih (j + 1) (o ++ [spDoneOf ps[j]]) (by omega) (by omega) (by simp; omega)
      have hd : ps.drop j = ps[j] :: ps.drop (j + 1) := List.drop_eq_getElem_cons hj
      rw [hd, wrap_i64 (n := (j : Int) + 1) (by omega) (by omega)]
      simp only [Int.toNat_natCast, getD_lt hj]
      generalize ps[j] = u at hmem ih' ⊢
      obtain ⟨ul, uk⟩ := u
      refine (bif_true (by simp; omega) _ _).trans ?_
      refine (bif_true (decide_eq_true (show o.length + 1 ≤ 4294967296 by omega)) _ _).trans ?_
      refine ih'.trans ?_
      simp only [List.map_cons, List.append_assoc, List.singleton_append]
    · refine (bif_false (decide_eq_false (show ¬ (j : Int) < (ps.length : Int) by omega)) _ _).trans ?_
      rw [List.drop_of_length_le (by omega)]
      simp
theorem loopzRepOf_5 {nds : List Nd} (hb : spWts nds ≤ 4294967296) (ts0 : List tGone.den) (th0 : Int) (th : Int) : ∀ (k j : Nat) (ts : List tGone.den), nds.length < j + k → j ≤ nds.length → ts.length ≤ j →
    itzRepOf_5 k nds j ts0 th0 ts th = some (.ret ((), ((), ((ts0, (th0, ())), ((ts ++ (nds.drop j).map spGoneOf, (th, ())), ()))))) := by
  intro k
  have hlen := spWts_len nds
  induction k with
  | zero => intro j o h1 h2; omega
  | succ k ih =>
    intro j ts h1 h2 h3
    rw [slzRepOf_5]
    unfold stepzRepOf_5
    by_cases hj : j < nds.length
    · refine (bif_true (decide_eq_true (show (j : Int) < (nds.length : Int) by omega)) _ _).trans ?_
      have hmem := spWt_mem (List.getElem_mem hj)
      have ih' := ih (j + 1) (ts ++ [spGoneOf nds[j]]) (by omega) (by omega) (by simp; omega)
      have hd : nds.drop j = nds[j] :: nds.drop (j + 1) := List.drop_eq_getElem_cons hj
      rw [hd]
      simp only [Int.toNat_natCast, getD_lt hj]
      generalize nds[j] = u at hmem ih' ⊢
      obtain ⟨ul, uk⟩ := u
      refine (bif_true (by simp; omega) _ _).trans ?_
      refine (bif_true (by simp; omega) _ _).trans ?_
      have hw1 := spAt_wt (Tre.mk ul uk) 1
      have hw2 := spWts_kids (spAt (Tre.mk ul uk) 1)
      have cA : ((decide ((0 : Int) = 0) && decide (([] : List tDone.den).length = 0)) && decide (spWts (spAt (Tre.mk ul uk) 1).kids ≤ 4294967296)) = true := by simp; omega
      refine (bif_true cA _ _).trans ?_
      refine (bif_true (decide_eq_true (show ts.length + 1 ≤ 4294967296 by omega)) _ _).trans ?_
      rw [wrap_i64 (n := (j : Int) + 1) (by omega) (by omega)]
      refine ih'.trans ?_
      simp only [List.map_cons, List.append_assoc, List.singleton_append]
    · refine (bif_false (decide_eq_false (show ¬ (j : Int) < (nds.length : Int) by omega)) _ _).trans ?_
      rw [List.drop_of_length_le (by omega)]
      simp
def bodyzRepOf (a0 : Nd) : Option iozRepOf.Res := (FzRepOf_5 (((spAt (Tre.mk a0.1 a0.2) 0).2, (0, ())), (([], (0, ())), (([], (IntKind.i32.wrap (spAt (Tre.mk a0.1 a0.2) 1).1.snd.fst, ())), ())))).run fun y => match y with | .ret ((), ((), (x53, x54, ()), (x55, x56, ()), ())) => (some (Out.ret (((x55, x56, ()), ()), ())))
theorem runzRepOf (a0 : Nd) : Io.run tt hdzRepOf dr lpzRepOf iozRepOf Go.Proofs.Tryz.f52 ((a0, ()), ()) = bodyzRepOf a0 := by kernel_rfl
theorem okzRepOf : HcOk prog 52 (ioHd iozRepOf FzRepOf) := by
  refine fn_sound (n := 400) hm (cs := cszRepOf) (.cons oktAt (.cons oktNameOf (.cons oktBlobOf .nil))) (lp := lpzRepOf) (fn := Go.Proofs.Tryz.f52) (by kernel_rfl) (by kernel_rfl) (by kernel_rfl) iozRepOf (.step (h0 := loHd lozRepOf_5 FzRepOf_5) (by kernel_rfl) (loop_sound (n := 400) hm (cs := cszRepOf) (.cons oktAt (.cons oktNameOf (.cons oktBlobOf .nil))) (lp := lpzRepOf) (fn := Go.Proofs.Tryz.f52) (.step (h0 := loHd lozRepOf_10 FzRepOf_10) (by kernel_rfl) (loop_sound (n := 400) hm (cs := cszRepOf) (.cons oktAt (.cons oktNameOf (.cons oktBlobOf .nil))) (lp := lpzRepOf) (fn := Go.Proofs.Tryz.f52) (.done (by kernel_rfl)) lozRepOf_10 FzRepOf_10 ?_) (.done (by kernel_rfl))) lozRepOf_5 FzRepOf_5 ?_) (.done (by kernel_rfl))) FzRepOf ?_
  · rintro ⟨⟨(tops : List Nd), (i : Int), (ps : List Nd), (j : Int), ⟨⟩⟩, ⟨⟨(ts0 : List tGone.den), (th0 : Int), ⟨⟩⟩, ⟨(ts : List tGone.den), (th : Int), ⟨⟩⟩, ⟨(tn : List Int), (o : List tDone.den), ⟨⟩⟩, ⟨⟩⟩⟩ y hw hy
    obtain ⟨hg, hy⟩ := Tr.guard hy
    simp only [Bool.and_eq_true, decide_eq_true_eq] at hg
    obtain ⟨⟨h1, h2⟩, h3⟩ := hg
    have h1 : j = 0 := h1
    have h2 : o = [] := List.eq_nil_of_length_eq_zero h2
    have h3 : spWts ps ≤ 4294967296 := h3
    subst h1
    subst h2
    refine ⟨ps.length + 1, (loopzRepOf_10 h3 tops i ts0 th0 ts th tn (ps.length + 1) 0 [] (by omega) (by omega) (by simp)).trans ?_⟩
    rw [← hy, List.drop_zero]
    rfl
  · rintro ⟨⟨(nds : List Nd), (j : Int), ⟨⟩⟩, ⟨⟨(ts0 : List tGone.den), (th0 : Int), ⟨⟩⟩, ⟨(ts : List tGone.den), (th : Int), ⟨⟩⟩, ⟨⟩⟩⟩ y hw hy
    obtain ⟨hg, hy⟩ := Tr.guard hy
    simp only [Bool.and_eq_true, decide_eq_true_eq] at hg
    obtain ⟨⟨h1, h2⟩, h3⟩ := hg
    have h1 : j = 0 := h1
    have h2 : ts = [] := List.eq_nil_of_length_eq_zero h2
    have h3 : spWts nds ≤ 4294967296 := h3
    subst h1
    subst h2
    refine ⟨nds.length + 1, (loopzRepOf_5 h3 ts0 th0 th (nds.length + 1) 0 [] (by omega) (by omega) (by simp)).trans ?_⟩
    rw [← hy, List.drop_zero]
    rfl
  · rintro ⟨⟨(n : Nd), ⟨⟩⟩, ⟨⟩⟩ out hw ho
    obtain ⟨hg, ho⟩ := Tr.guard ho
    have hg : spWt n ≤ 4294967296 := of_decide_eq_true hg
    cases ho
    refine (runzRepOf n).trans ?_
    unfold bodyzRepOf
    obtain ⟨nl, nk⟩ := n
    have hw1 := spAt_wt (Tre.mk nl nk) 0
    have hw2 := spWts_kids (spAt (Tre.mk nl nk) 0)
    have c1 : ((decide ((0 : Int) = 0) && decide (([] : List tGone.den).length = 0)) && decide (spWts (spAt (Tre.mk nl nk) 0).kids ≤ 4294967296)) = true := by simp; omega
    refine (bif_true c1 _ _).trans ?_
    show _ = some (Out.ret ((spRepOf (Tre.mk nl nk), ()), ()))
    unfold spRepOf
    rfl
end
end Go.Proofs.YtmlgepgcofmpeaaGreat.Sym
namespace Go.Proofs.YtmlgepgcofmpeaaGreat.Sym
open Go
set_option linter.unusedSimpArgs false
set_option linter.unusedVariables false
noncomputable section
theorem i32_id {n : Int} (h : inR .i32 n) : IntKind.i32.wrap n = n := by
  simp only [inR, IntKind.min, IntKind.max, IntKind.signed, IntKind.bits] at h
  exact wrap_id (by simp [inR, IntKind.min, IntKind.max, IntKind.signed, IntKind.bits]; simpa using h)
theorem i16_id {n : Int} (h : inR .i16 n) : IntKind.i16.wrap n = n := by
  simp only [inR, IntKind.min, IntKind.max, IntKind.signed, IntKind.bits] at h
  exact wrap_id (by simp [inR, IntKind.min, IntKind.max, IntKind.signed, IntKind.bits]; simpa using h)
theorem map_id_of {α : Type} {f : α → α} {l : List α} (h : ∀ x ∈ l, f x = x) : l.map f = l := by
  conv => rhs; rw [← List.map_id l]
  exact List.map_congr_left h
theorem spPartOf_full {p : tPart.den} (h : tPart.wf p) : spPartOf (spFPart p) = p := by
  obtain ⟨a, ⟨z, x, ⟨⟩⟩, ⟨⟩⟩ := p
  show (IntKind.i32.wrap a, _, _) = _
  rw [i32_id h.1]; rfl
theorem spTopicOf_full {t : tTopic.den} (h : tTopic.wf t) : spTopicOf (spFTopic t) = t := by
  obtain ⟨n, l, ⟨⟩⟩ := t
  show (n, ((l.map spFPart).map spPartOf, ())) = _
  rw [List.map_map, map_id_of (f := spPartOf ∘ spFPart) (l := l) fun p hp => spPartOf_full (h.2.1.2 p hp)]
theorem spReqOf_full {m : tReq.den} (h : tReq.wf m) : spReqOf (spFullReq m) = m := by
  obtain ⟨⟨z, s, ⟨⟩⟩, a, w, l, ⟨⟩⟩ := m
  unfold spReqOf spFullReq
  show ((z, (s, ())), (IntKind.i16.wrap a, (IntKind.i32.wrap w, ((l.map spFTopic).map spTopicOf, ())))) = _
  rw [i16_id (n := a) h.2.1, i32_id (n := w) h.2.2.1, List.map_map, map_id_of (f := spTopicOf ∘ spFTopic) (l := l) fun t ht => spTopicOf_full (h.2.2.2.1.2 t ht)]
theorem spDoneOf_full {p : tDone.den} (h : tDone.wf p) : spDoneOf (spFDone p) = p := by
  obtain ⟨a, b, c, d, e, ⟨⟩⟩ := p
  show (IntKind.i32.wrap a, (IntKind.i16.wrap b, _)) = _
  rw [i32_id h.1, i16_id h.2.1]; rfl
theorem spGoneOf_full {t : tGone.den} (h : tGone.wf t) : spGoneOf (spFGone t) = t := by
  obtain ⟨n, l, ⟨⟩⟩ := t
  show (n, ((l.map spFDone).map spDoneOf, ())) = _
  rw [List.map_map, map_id_of (f := spDoneOf ∘ spFDone) (l := l) fun p hp => spDoneOf_full (h.2.1.2 p hp)]
theorem spRepOf_full {m : tRep.den} (h : tRep.wf m) : spRepOf (spFullRep m) = m := by
  obtain ⟨l, w, ⟨⟩⟩ := m
  unfold spRepOf spFullRep
  show ((l.map spFGone).map spGoneOf, (IntKind.i32.wrap w, ())) = _
  rw [i32_id (n := w) h.2.1, List.map_map, map_id_of (f := spGoneOf ∘ spFGone) (l := l) fun t ht => spGoneOf_full (h.1.2 t ht)]
open Classical in
def spEqT {α : Type} (a b : α) : Bool := if a = b then true else false
theorem spEqT_iff {α : Type} {a b : α} : spEqT a b = true ↔ a = b := by unfold spEqT; split <;> simp_all
abbrev iozTwinReq : Io := ⟨[.dat tReq true false], [], [], [.dat tReq true false], none⟩
def FzTwinReq (d : iozTwinReq.In) : Tr iozTwinReq.Res := .ite (spLensReq d.1.1.2.2.2.1 && decide (spWt (spFullReq d.1.1) ≤ 4294967296)) (.ret (.ret ((d.1.1, ()), ()))) .no
abbrev cszTwinReq : List (Nat × Hc) := [(34, ioHd iozFullReq FzFullReq), (33, ioHd iotTwin FtTwin), (32, ioHd iozReqOf FzReqOf)]
def hdzTwinReq : Hd := hdT cszTwinReq
def lpzTwinReq : Lp := lpT []
def bodyzTwinReq (a0 : Bool) (a1 : List Int) (a2 : Int) (a3 : Int) (a4 : List tTopic.den) : Option iozTwinReq.Res := bif spLensReq a4 then bif decide (spWt (Tre.mk (spFullReq ((a0, a1, ()), a2, a3, a4, ())).1 (spFullReq ((a0, a1, ()), a2, a3, a4, ())).2) ≤ 4294967296) then bif decide (spWt (Tre.mk (spFullReq ((a0, a1, ()), a2, a3, a4, ())).1 (spFullReq ((a0, a1, ()), a2, a3, a4, ())).2) ≤ 4294967296) then some (Out.ret ((spReqOf (Tre.mk (spFullReq ((a0, a1, ()), a2, a3, a4, ())).1 (spFullReq ((a0, a1, ()), a2, a3, a4, ())).2), ()), ())) else none else none else none
theorem runzTwinReq (a0 : Bool) (a1 : List Int) (a2 : Int) (a3 : Int) (a4 : List tTopic.den) : Io.run tt hdzTwinReq dr lpzTwinReq iozTwinReq Go.Proofs.Tryz.f9 ((((a0, a1, ()), a2, a3, a4, ()), ()), ()) = bodyzTwinReq a0 a1 a2 a3 a4 := by kernel_rfl
theorem okzTwinReq : HcOk prog 9 (ioHd iozTwinReq FzTwinReq) := by
  refine fn_sound (n := 400) hm (cs := cszTwinReq) (.cons okzFullReq (.cons oktTwin (.cons okzReqOf .nil))) (lp := lpzTwinReq) (fn := Go.Proofs.Tryz.f9) (by kernel_rfl) (by kernel_rfl) (by kernel_rfl) iozTwinReq (.done (by kernel_rfl)) FzTwinReq ?_
  rintro ⟨⟨m, ⟨⟩⟩, ⟨⟩⟩ out hw ho
  obtain ⟨hg, ho⟩ := Tr.guard ho
  simp only [Bool.and_eq_true, decide_eq_true_eq] at hg
  obtain ⟨h1, h2⟩ := hg
  have h1 : spLensReq m.2.2.2.1 = true := h1
  have h2 : spWt (spFullReq m) ≤ 4294967296 := h2
  cases ho
  have hf := spReqOf_full (m := m) hw.1.1
  obtain ⟨⟨nz, ns, ⟨⟩⟩, ak, wt, ts, ⟨⟩⟩ := m
  refine (runzTwinReq nz ns ak wt ts).trans ?_
  unfold bodyzTwinReq
  generalize spFullReq ((nz, (ns, ())), (ak, (wt, (ts, ())))) = n at h2 hf ⊢
  obtain ⟨nl, nk⟩ := n
  refine (bif_true h1 _ _).trans ?_
  refine (bif_true (decide_eq_true h2) _ _).trans ?_
  refine (bif_true (decide_eq_true h2) _ _).trans ?_
  exact congrArg (fun x => some (Out.ret ((x, ()), ()))) hf
abbrev iozAlikeReq : Io := ⟨[.dat tReq true false, .dat tReq true false], [], [], [dB], none⟩
def FzAlikeReq (d : iozAlikeReq.In) : Tr iozAlikeReq.Res := .ite (spLensReq d.1.1.2.2.2.1 && spLensReq d.1.2.1.2.2.2.1) (.ret (.ret ((spEqT d.1.1 d.1.2.1, ()), ()))) .no
abbrev cszAlikeReq : List (Nat × Hc) := [(34, ioHd iozFullReq FzFullReq), (49, ioHd iotAlike FtAlike)]
def hdzAlikeReq : Hd := hdT cszAlikeReq
def lpzAlikeReq : Lp := lpT []
def bodyzAlikeReq (a0 : Bool) (a1 : List Int) (a2 : Int) (a3 : Int) (a4 : List tTopic.den) (a5 : Bool) (a6 : List Int) (a7 : Int) (a8 : Int) (a9 : List tTopic.den) : Option iozAlikeReq.Res := bif spLensReq a4 then bif spLensReq a9 then some (Out.ret ((spEqN (Tre.mk (spFullReq ((a0, a1, ()), a2, a3, a4, ())).1 (spFullReq ((a0, a1, ()), a2, a3, a4, ())).2) (Tre.mk (spFullReq ((a5, a6, ()), a7, a8, a9, ())).1 (spFullReq ((a5, a6, ()), a7, a8, a9, ())).2), ()), ())) else none else none
theorem runzAlikeReq (a0 : Bool) (a1 : List Int) (a2 : Int) (a3 : Int) (a4 : List tTopic.den) (a5 : Bool) (a6 : List Int) (a7 : Int) (a8 : Int) (a9 : List tTopic.den) : Io.run tt hdzAlikeReq dr lpzAlikeReq iozAlikeReq Go.Proofs.Tryz.f12 ((((a0, a1, ()), a2, a3, a4, ()), ((a5, a6, ()), a7, a8, a9, ()), ()), ()) = bodyzAlikeReq a0 a1 a2 a3 a4 a5 a6 a7 a8 a9 := by kernel_rfl
theorem okzAlikeReq : HcOk prog 12 (ioHd iozAlikeReq FzAlikeReq) := by
  refine fn_sound (n := 400) hm (cs := cszAlikeReq) (.cons okzFullReq (.cons oktAlike .nil)) (lp := lpzAlikeReq) (fn := Go.Proofs.Tryz.f12) (by kernel_rfl) (by kernel_rfl) (by kernel_rfl) iozAlikeReq (.done (by kernel_rfl)) FzAlikeReq ?_
  rintro ⟨⟨a, b, ⟨⟩⟩, ⟨⟩⟩ out hw ho
  obtain ⟨hg, ho⟩ := Tr.guard ho
  simp only [Bool.and_eq_true] at hg
  obtain ⟨h1, h2⟩ := hg
  have h1 : spLensReq a.2.2.2.1 = true := h1
  have h2 : spLensReq b.2.2.2.1 = true := h2
  cases ho
  have hf := spReqOf_full (m := a) hw.1.1
  have hf' := spReqOf_full (m := b) hw.1.2.1
  have key : spEqN (spFullReq a) (spFullReq b) = spEqT a b := by
    rw [Bool.eq_iff_iff, spEqN_iff, spEqT_iff]
    exact ⟨fun h => by rw [← hf, ← hf', h], fun h => by rw [h]⟩
  obtain ⟨⟨nzA, nsA, ⟨⟩⟩, akA, wtA, tsA, ⟨⟩⟩ := a
  obtain ⟨⟨nzB, nsB, ⟨⟩⟩, akB, wtB, tsB, ⟨⟩⟩ := b
  refine (runzAlikeReq nzA nsA akA wtA tsA nzB nsB akB wtB tsB).trans ?_
  unfold bodyzAlikeReq
  generalize spFullReq ((nzA, (nsA, ())), (akA, (wtA, (tsA, ())))) = n at key ⊢
  generalize spFullReq ((nzB, (nsB, ())), (akB, (wtB, (tsB, ())))) = n' at key ⊢
  obtain ⟨nl, nk⟩ := n
  obtain ⟨nl', nk'⟩ := n'
  refine (bif_true h1 _ _).trans ?_
  refine (bif_true h2 _ _).trans ?_
  exact congrArg (fun x => some (Out.ret ((x, ()), ()))) key
abbrev iozEncReq : Io := ⟨[dI, .dat tReq true false], [], [], [dL, dI], none⟩
@[irreducible] noncomputable def spEReq (v : Int) (m : tReq.den) : List Int × Int := spEW 0 false v (spFullReq m)
def FzEncReq (d : iozEncReq.In) : Tr iozEncReq.Res := .ite (spLensReq d.1.2.1.2.2.2.1 && decide (8 * spWt (spFullReq d.1.2.1) ≤ 4294967296)) (.ret (.ret (((spEReq d.1.1 d.1.2.1).1, ((spEReq d.1.1 d.1.2.1).2, ())), ()))) .no
abbrev cszEncReq : List (Nat × Hc) := [(34, ioHd iozFullReq FzFullReq), (35, ioHd iotbEW FtbEW)]
def hdzEncReq : Hd := hdT cszEncReq
def lpzEncReq : Lp := lpT []
def bodyzEncReq (a0 : Int) (a1 : Bool) (a2 : List Int) (a3 : Int) (a4 : Int) (a5 : List tTopic.den) : Option iozEncReq.Res := bif spLensReq a5 then bif decide (8 * spWt (Tre.mk (spFullReq ((a1, a2, ()), a3, a4, a5, ())).1 (spFullReq ((a1, a2, ()), a3, a4, a5, ())).2) ≤ 4294967296) then some (Out.ret (((spEW 0 false a0 (Tre.mk (spFullReq ((a1, a2, ()), a3, a4, a5, ())).1 (spFullReq ((a1, a2, ()), a3, a4, a5, ())).2)).fst, (spEW 0 false a0 (Tre.mk (spFullReq ((a1, a2, ()), a3, a4, a5, ())).1 (spFullReq ((a1, a2, ()), a3, a4, a5, ())).2)).snd, ()), ())) else none else none
theorem runzEncReq (a0 : Int) (a1 : Bool) (a2 : List Int) (a3 : Int) (a4 : Int) (a5 : List tTopic.den) : Io.run tt hdzEncReq dr lpzEncReq iozEncReq Go.Proofs.Tryz.f10 ((a0, ((a1, a2, ()), a3, a4, a5, ()), ()), ()) = bodyzEncReq a0 a1 a2 a3 a4 a5 := by kernel_rfl
theorem okzEncReq : HcOk prog 10 (ioHd iozEncReq FzEncReq) := by
  refine fn_sound (n := 400) hm (cs := cszEncReq) (.cons okzFullReq (.cons oktbEW .nil)) (lp := lpzEncReq) (fn := Go.Proofs.Tryz.f10) (by kernel_rfl) (by kernel_rfl) (by kernel_rfl) iozEncReq (.done (by kernel_rfl)) FzEncReq ?_
  rintro ⟨⟨(v : Int), m, ⟨⟩⟩, ⟨⟩⟩ out hw ho
  obtain ⟨hg, ho⟩ := Tr.guard ho
  simp only [Bool.and_eq_true, decide_eq_true_eq] at hg
  obtain ⟨h1, h2⟩ := hg
  have h1 : spLensReq m.2.2.2.1 = true := h1
  have h2 : 8 * spWt (spFullReq m) ≤ 4294967296 := h2
  cases ho
  show _ = some (Out.ret (((spEReq v m).1, ((spEReq v m).2, ())), ()))
  unfold spEReq
  obtain ⟨⟨nz, ns, ⟨⟩⟩, ak, wt, ts, ⟨⟩⟩ := m
  refine (runzEncReq v nz ns ak wt ts).trans ?_
  unfold bodyzEncReq
  generalize spFullReq ((nz, (ns, ())), (ak, (wt, (ts, ())))) = n at h2 ⊢
  obtain ⟨nl, nk⟩ := n
  refine (bif_true h1 _ _).trans ?_
  exact bif_true (decide_eq_true h2) _ _
abbrev iozTwinRep : Io := ⟨[.dat tRep true false], [], [], [.dat tRep true false], none⟩
def FzTwinRep (d : iozTwinRep.In) : Tr iozTwinRep.Res := .ite (spLensRep d.1.1.1 && decide (spWt (spFullRep d.1.1) ≤ 4294967296)) (.ret (.ret ((d.1.1, ()), ()))) .no
abbrev cszTwinRep : List (Nat × Hc) := [(53, ioHd iozFullRep FzFullRep), (33, ioHd iotTwin FtTwin), (52, ioHd iozRepOf FzRepOf)]
def hdzTwinRep : Hd := hdT cszTwinRep
def lpzTwinRep : Lp := lpT []
def bodyzTwinRep (a0 : List tGone.den) (a1 : Int) : Option iozTwinRep.Res := bif spLensRep a0 then bif decide (spWt (Tre.mk (spFullRep (a0, a1, ())).1 (spFullRep (a0, a1, ())).2) ≤ 4294967296) then bif decide (spWt (Tre.mk (spFullRep (a0, a1, ())).1 (spFullRep (a0, a1, ())).2) ≤ 4294967296) then some (Out.ret ((spRepOf (Tre.mk (spFullRep (a0, a1, ())).1 (spFullRep (a0, a1, ())).2), ()), ())) else none else none else none
theorem runzTwinRep (a0 : List tGone.den) (a1 : Int) : Io.run tt hdzTwinRep dr lpzTwinRep iozTwinRep Go.Proofs.Tryz.f14 (((a0, a1, ()), ()), ()) = bodyzTwinRep a0 a1 := by kernel_rfl
theorem okzTwinRep : HcOk prog 14 (ioHd iozTwinRep FzTwinRep) := by
  refine fn_sound (n := 400) hm (cs := cszTwinRep) (.cons okzFullRep (.cons oktTwin (.cons okzRepOf .nil))) (lp := lpzTwinRep) (fn := Go.Proofs.Tryz.f14) (by kernel_rfl) (by kernel_rfl) (by kernel_rfl) iozTwinRep (.done (by kernel_rfl)) FzTwinRep ?_
  rintro ⟨⟨m, ⟨⟩⟩, ⟨⟩⟩ out hw ho
  obtain ⟨hg, ho⟩ := Tr.guard ho
  simp only [Bool.and_eq_true, decide_eq_true_eq] at hg
  obtain ⟨h1, h2⟩ := hg
  have h1 : spLensRep m.1 = true := h1
  have h2 : spWt (spFullRep m) ≤ 4294967296 := h2
  cases ho
  have hf := spRepOf_full (m := m) hw.1.1
  obtain ⟨ts, th, ⟨⟩⟩ := m
  refine (runzTwinRep ts th).trans ?_
  unfold bodyzTwinRep
  generalize spFullRep (ts, (th, ())) = n at h2 hf ⊢
  obtain ⟨nl, nk⟩ := n
  refine (bif_true h1 _ _).trans ?_
  refine (bif_true (decide_eq_true h2) _ _).trans ?_
  refine (bif_true (decide_eq_true h2) _ _).trans ?_
  exact congrArg (fun x => some (Out.ret ((x, ()), ()))) hf
abbrev iozAlikeRep : Io := ⟨[.dat tRep true false, .dat tRep true false], [], [], [dB], none⟩
def FzAlikeRep (d : iozAlikeRep.In) : Tr iozAlikeRep.Res := .ite (spLensRep d.1.1.1 && spLensRep d.1.2.1.1) (.ret (.ret ((spEqT d.1.1 d.1.2.1, ()), ()))) .no
abbrev cszAlikeRep : List (Nat × Hc) := [(53, ioHd iozFullRep FzFullRep), (49, ioHd iotAlike FtAlike)]
def hdzAlikeRep : Hd := hdT cszAlikeRep
def lpzAlikeRep : Lp := lpT []
def bodyzAlikeRep (a0 : List tGone.den) (a1 : Int) (a2 : List tGone.den) (a3 : Int) : Option iozAlikeRep.Res := bif spLensRep a0 then bif spLensRep a2 then some (Out.ret ((spEqN (Tre.mk (spFullRep (a0, a1, ())).1 (spFullRep (a0, a1, ())).2) (Tre.mk (spFullRep (a2, a3, ())).1 (spFullRep (a2, a3, ())).2), ()), ())) else none else none
theorem runzAlikeRep (a0 : List tGone.den) (a1 : Int) (a2 : List tGone.den) (a3 : Int) : Io.run tt hdzAlikeRep dr lpzAlikeRep iozAlikeRep Go.Proofs.Tryz.f17 (((a0, a1, ()), (a2, a3, ()), ()), ()) = bodyzAlikeRep a0 a1 a2 a3 := by kernel_rfl
theorem okzAlikeRep : HcOk prog 17 (ioHd iozAlikeRep FzAlikeRep) := by
  refine fn_sound (n := 400) hm (cs := cszAlikeRep) (.cons okzFullRep (.cons oktAlike .nil)) (lp := lpzAlikeRep) (fn := Go.Proofs.Tryz.f17) (by kernel_rfl) (by kernel_rfl) (by kernel_rfl) iozAlikeRep (.done (by kernel_rfl)) FzAlikeRep ?_
  rintro ⟨⟨a, b, ⟨⟩⟩, ⟨⟩⟩ out hw ho
  obtain ⟨hg, ho⟩ := Tr.guard ho
  simp only [Bool.and_eq_true] at hg
  obtain ⟨h1, h2⟩ := hg
  have h1 : spLensRep a.1 = true := h1
  have h2 : spLensRep b.1 = true := h2
  cases ho
  have hf := spRepOf_full (m := a) hw.1.1
  have hf' := spRepOf_full (m := b) hw.1.2.1
  have key : spEqN (spFullRep a) (spFullRep b) = spEqT a b := by
    rw [Bool.eq_iff_iff, spEqN_iff, spEqT_iff]
    exact ⟨fun h => by rw [← hf, ← hf', h], fun h => by rw [h]⟩
  obtain ⟨tsA, thA, ⟨⟩⟩ := a
  obtain ⟨tsB, thB, ⟨⟩⟩ := b
  refine (runzAlikeRep tsA thA tsB thB).trans ?_
  unfold bodyzAlikeRep
  generalize spFullRep (tsA, (thA, ())) = n at key ⊢
  generalize spFullRep (tsB, (thB, ())) = n' at key ⊢
  obtain ⟨nl, nk⟩ := n
  obtain ⟨nl', nk'⟩ := n'
  refine (bif_true h1 _ _).trans ?_
  refine (bif_true h2 _ _).trans ?_
  exact congrArg (fun x => some (Out.ret ((x, ()), ()))) key
abbrev iozEncRep : Io := ⟨[dI, .dat tRep true false], [], [], [dL, dI], none⟩
@[irreducible] noncomputable def spERep (v : Int) (m : tRep.den) : List Int × Int := spEW 0 true v (spFullRep m)
def FzEncRep (d : iozEncRep.In) : Tr iozEncRep.Res := .ite (spLensRep d.1.2.1.1 && decide (8 * spWt (spFullRep d.1.2.1) ≤ 4294967296)) (.ret (.ret (((spERep d.1.1 d.1.2.1).1, ((spERep d.1.1 d.1.2.1).2, ())), ()))) .no
abbrev cszEncRep : List (Nat × Hc) := [(53, ioHd iozFullRep FzFullRep), (35, ioHd iotbEW FtbEW)]
def hdzEncRep : Hd := hdT cszEncRep
def lpzEncRep : Lp := lpT []
def bodyzEncRep (a0 : Int) (a1 : List tGone.den) (a2 : Int) : Option iozEncRep.Res := bif spLensRep a1 then bif decide (8 * spWt (Tre.mk (spFullRep (a1, a2, ())).1 (spFullRep (a1, a2, ())).2) ≤ 4294967296) then some (Out.ret (((spEW 0 true a0 (Tre.mk (spFullRep (a1, a2, ())).1 (spFullRep (a1, a2, ())).2)).fst, (spEW 0 true a0 (Tre.mk (spFullRep (a1, a2, ())).1 (spFullRep (a1, a2, ())).2)).snd, ()), ())) else none else none
theorem runzEncRep (a0 : Int) (a1 : List tGone.den) (a2 : Int) : Io.run tt hdzEncRep dr lpzEncRep iozEncRep Go.Proofs.Tryz.f15 ((a0, (a1, a2, ()), ()), ()) = bodyzEncRep a0 a1 a2 := by kernel_rfl
theorem okzEncRep : HcOk prog 15 (ioHd iozEncRep FzEncRep) := by
  refine fn_sound (n := 400) hm (cs := cszEncRep) (.cons okzFullRep (.cons oktbEW .nil)) (lp := lpzEncRep) (fn := Go.Proofs.Tryz.f15) (by kernel_rfl) (by kernel_rfl) (by kernel_rfl) iozEncRep (.done (by kernel_rfl)) FzEncRep ?_
  rintro ⟨⟨(v : Int), m, ⟨⟩⟩, ⟨⟩⟩ out hw ho
  obtain ⟨hg, ho⟩ := Tr.guard ho
  simp only [Bool.and_eq_true, decide_eq_true_eq] at hg
  obtain ⟨h1, h2⟩ := hg
  have h1 : spLensRep m.1 = true := h1
  have h2 : 8 * spWt (spFullRep m) ≤ 4294967296 := h2
  cases ho
  show _ = some (Out.ret (((spERep v m).1, ((spERep v m).2, ())), ()))
  unfold spERep
  obtain ⟨ts, th, ⟨⟩⟩ := m
  refine (runzEncRep v ts th).trans ?_
  unfold bodyzEncRep
  generalize spFullRep (ts, (th, ())) = n at h2 ⊢
  obtain ⟨nl, nk⟩ := n
  refine (bif_true h1 _ _).trans ?_
  exact bif_true (decide_eq_true h2) _ _
end
end Go.Proofs.YtmlgepgcofmpeaaGreat.Sym
namespace Go.Proofs.YtmlgepgcofmpeaaGreat.Sym
open Go
set_option linter.unusedSimpArgs false
set_option linter.unusedVariables false
noncomputable section
def spSeq (a b : List Int × Int) : List Int × Int := if a.2 ≠ 0 then ([], a.2) else if b.2 ≠ 0 then ([], b.2) else (a.1 ++ b.1, 0)
mutual
def spW (f : Fd) (v : Int) : Nd → List Int × Int
  | .mk a ks => if f.lab.2.1 = 9 then (if 16 < ks.length then ([], 9) else spSeq (spBE ks.length 4, 0) (spWItems (f.kids.headD f) v ks)) else if f.lab.2.1 = 10 then spWZip v f.kids ks else spVal f v (.mk a ks)
termination_by n => (SizeOf.sizeOf n, 0)
def spWItems (f : Fd) (v : Int) : List Nd → List Int × Int
  | [] => ([], 0)
  | k :: ks => spSeq (spW f v k) (spWItems f v ks)
termination_by l => (SizeOf.sizeOf l, 0)
def spWZip (v : Int) : List Fd → List Nd → List Int × Int
  | f :: fs, k :: ks => if spHas f v = true then spSeq (spW f v k) (spWZip v fs ks) else spWZip v fs ks
  | _, _ => ([], 0)
termination_by fs l => (SizeOf.sizeOf l, 0)
end
mutual
def spWhole (f : Fd) : Nd → Prop
  | .mk a ks => (f.lab.2.1 = 9 → spWholes (f.kids.headD f) ks) ∧ (f.lab.2.1 = 10 → ks.length = f.kids.length ∧ spWholeZ f.kids ks)
termination_by n => (SizeOf.sizeOf n, 0)
def spWholes (f : Fd) : List Nd → Prop
  | [] => True
  | k :: ks => spWhole f k ∧ spWholes f ks
termination_by l => (SizeOf.sizeOf l, 0)
def spWholeZ : List Fd → List Nd → Prop
  | f :: fs, k :: ks => spWhole f k ∧ spWholeZ fs ks
  | _, _ => True
termination_by fs l => (SizeOf.sizeOf l, 0)
end
theorem spWZip_nl (v : Int) (l : List Nd) : spWZip v [] l = ([], 0) := by rw [spWZip]; simp
theorem spVZip_nl (v : Int) (l : List Nd) : spVZip v [] l = ([], 0) := by rw [spVZip]; simp
theorem spCItems_len (f : Fd) (v : Int) : ∀ ks : List Nd, (spCItems f v ks).1.length = ks.length
  | [] => by rw [spCItems]
  | k :: ks => by rw [spCItems, List.length_cons, List.length_cons, spCItems_len f v ks]
theorem spHere_cons (f : Fd) (fs : List Fd) (v : Int) : spHere (f :: fs) v = if spHas f v = true then f :: spHere fs v else spHere fs v := by
  unfold spHere; rw [List.filter_cons]
theorem spCZip_len (v : Int) : ∀ (fs : List Fd) (ks : List Nd), ks.length = fs.length → (spCZip v fs ks).1.length = (spHere fs v).length
  | [], ks, _ => by rw [spCZip_nl]; rfl
  | f :: fs, [], h => by simp at h
  | f :: fs, k :: ks, h => by
    have ih := spCZip_len v fs ks (by simpa using h)
    rw [spCZip, spHere_cons]
    split
    · rw [List.length_cons, List.length_cons, ih]
    · exact ih
theorem spSh_row (k : Int) (l : List Nd) (h : 8 < k) : spShN k (Tre.mk (k, (0, (false, (([] : List Int), ())))) l) = true := by
  unfold spShN
  simp; omega
theorem spW_cut (v : Int) : ∀ (N : Nat) (f : Fd) (n : Nd), spWt n ≤ N → spWhole f n → spVal f v (spCut f v n).1 = spW f v n := by
  intro N
  induction N with
  | zero => intro f n h; have := spWt_pos n; omega
  | succ N ih =>
    rintro f ⟨a, ks⟩ h hw
    rw [spWt_eq] at h
    have hks : ∀ k ∈ ks, spWt k ≤ N := fun k hk => by have := spWt_mem hk; simp only at h; omega
    rw [spWhole] at hw
    rw [spCut, spW]
    have hi : ∀ (f : Fd) (l : List Nd), (∀ k ∈ l, spWt k ≤ N) → spWholes f l → spVItems f v (spCItems f v l).1 = spWItems f v l := by
      intro f l
      induction l with
      | nil => intro _ _; rw [spCItems, spVItems, spWItems]
      | cons k l ihl =>
        intro hk hw
        rw [spWholes] at hw
        rw [spCItems, spVItems, spWItems, ih f k (hk k (by simp)) hw.1, ihl (fun k' hk' => hk k' (List.mem_cons_of_mem _ hk')) hw.2]
        rfl
    have hz : ∀ (l : List Nd) (fs : List Fd), (∀ k ∈ l, spWt k ≤ N) → l.length = fs.length → spWholeZ fs l → spVZip v (spHere fs v) (spCZip v fs l).1 = spWZip v fs l := by
      intro l
      induction l with
      | nil =>
        intro fs _ hl _
        cases fs with
        | nil => rw [spCZip_nl, spWZip_nl]; exact spVZip_nl _ _
        | cons f fs => simp at hl
      | cons k l ihl =>
        intro fs hk hl hw
        cases fs with
        | nil => simp at hl
        | cons f fs =>
          rw [spWholeZ] at hw
          have ih2 := ihl fs (fun k' hk' => hk k' (List.mem_cons_of_mem _ hk')) (by simpa using hl) hw.2
          rw [spCZip, spWZip, spHere_cons]
          by_cases hh : spHas f v = true
          · rw [if_pos hh, if_pos hh, if_pos hh, spVZip, ih f k (hk k (by simp)) hw.1, ih2]
            rfl
          · rw [if_neg hh, if_neg hh, if_neg hh]
            exact ih2
    by_cases h9 : f.lab.2.1 = 9
    · rw [if_pos h9, if_pos h9, spVal, h9, spSh_row 9 _ (by omega)]
      rw [if_neg (by decide), if_neg (by decide), if_pos rfl, spCItems_len, hi _ ks hks (hw.1 h9)]
      split
      · rfl
      · unfold spSeq; simp
    · rw [if_neg h9, if_neg h9]
      by_cases h10 : f.lab.2.1 = 10
      · rw [if_pos h10, if_pos h10, spVal, h10, spSh_row 10 _ (by omega)]
        rw [if_neg (by decide), if_neg (by decide), if_neg (by decide), if_pos rfl, spVParts, spCZip_len v _ _ (hw.2 h10).1, if_neg (by simp), hz ks _ hks (hw.2 h10).1 (hw.2 h10).2]
      · rw [if_neg h10, if_neg h10]
theorem spEW_eq {k : Int} {r : Bool} {v : Int} {t : List Fd} {ks : List Nd} (ht : spTab k r = (t, 0)) (hc : spChk t = 0) (hl : ks.length = t.length) (hw : spWholeZ t ks) :
    spEW k r v (ndRow ks) = if v < 0 ∨ 3 < v then ([], 8) else if (spCZip v t ks).2 = false then ([], 7) else if (spWZip v t ks).2 ≠ 0 then ([], (spWZip v t ks).2) else if 130048 < (spWZip v t ks).1.length then ([], 4) else ((spWZip v t ks).1, 0) := by
  have hd : spWhole (Tre.mk (([] : List Int), ((10 : Int), ((0 : Int), ((0 : Int), ())))) t) (ndRow ks) := by
    rw [spWhole]
    exact ⟨fun h => absurd (show (10 : Int) = 9 from h) (by decide), fun _ => ⟨hl, hw⟩⟩
  have hcut := spW_cut v _ _ _ (Nat.le_refl _) hd
  have ecut : spCut (Tre.mk (([] : List Int), ((10 : Int), ((0 : Int), ((0 : Int), ())))) t) v (ndRow ks) = (ndRow (spCZip v t ks).1, (spCZip v t ks).2) := by
    rw [spCut]; exact (if_neg (show ¬ ((10 : Int) = 9) by decide)).trans (if_pos rfl)
  have eW : spW (Tre.mk (([] : List Int), ((10 : Int), ((0 : Int), ((0 : Int), ())))) t) v (ndRow ks) = spWZip v t ks := by
    rw [spW]; exact (if_neg (show ¬ ((10 : Int) = 9) by decide)).trans (if_pos rfl)
  have eV : ∀ l, spVal (Tre.mk (([] : List Int), ((10 : Int), ((0 : Int), ((0 : Int), ())))) t) v (ndRow l) = spVParts t v (ndRow l) := fun l => by
    rw [spVal]
    refine (if_neg ?_).trans ((if_neg (show ¬ (10 : Int) ≤ 4 by decide)).trans ((if_neg (show ¬ (10 : Int) = 9 by decide)).trans (if_pos rfl)))
    show ¬ spShN 10 (ndRow l) = false
    rw [spSh_row 10 _ (by omega)]; decide
  rw [eW, ecut, eV] at hcut
  unfold spEW
  rw [ht]
  simp only
  rw [if_neg (by simp)]
  by_cases hv : v < 0 ∨ 3 < v
  · rw [if_pos hv, if_pos hv]
  rw [if_neg hv, if_neg hv, ecut]
  by_cases h7 : (spCZip v t ks).2 = false
  · rw [if_pos h7, if_pos h7]
  rw [if_neg h7, if_neg h7]
  unfold spEnc
  have hb : spBeg t v = 0 := by unfold spBeg; rw [if_neg hv, hc]
  rw [hb, spSh_row 10 _ (by omega), if_neg (by simp), if_neg (by decide), hcut]
def Wri (r : List Int × Int) (f : EnS → EnS) : Prop := ∀ s : EnS, s.2.2.length ≤ 130048 →
  (s.1 ≠ 0 → (f s).1 = s.1) ∧ (s.1 = 0 → (f s).1 = r.2) ∧ ((f s).1 = 0 → (((f s).2.1 = false ↔ s.2.1 = false ∧ s.2.2.length + r.1.length ≤ 130048) ∧ ((f s).2.1 = false → (f s).2.2 = s.2.2 ++ r.1))) ∧ (f s).2.2.length ≤ 130048
theorem Wri.seq {r1 r2 : List Int × Int} {f g : EnS → EnS} (hf : Wri r1 f) (hg : Wri r2 g) : Wri (spSeq r1 r2) fun s => g (f s) := by
  intro s hs
  obtain ⟨f1, f2, f3, f4⟩ := hf s hs
  obtain ⟨g1, g2, g3, g4⟩ := hg (f s) f4
  unfold spSeq
  refine ⟨fun h => ?_, fun h => ?_, fun h => ?_, g4⟩
  · have := f1 h
    rw [g1 (by rw [this]; exact h), this]
  · have := f2 h
    by_cases h1 : r1.2 = 0
    · rw [g2 (by rw [this]; exact h1)]
      by_cases h2 : r2.2 = 0
      · simp [h1, h2]
      · simp [h1, h2]
    · rw [g1 (by rw [this]; exact h1), this]
      simp [h1]
  · by_cases h0 : (f s).1 = 0
    · have hs0 : s.1 = 0 := by
        rcases Classical.em (s.1 = 0) with h' | h'
        · exact h'
        · rw [f1 h'] at h0; exact absurd h0 h'
      have h1 : r1.2 = 0 := by rw [← f2 hs0]; exact h0
      have h2 : r2.2 = 0 := by rw [← g2 h0]; exact h
      obtain ⟨a1, a2⟩ := f3 h0
      obtain ⟨b1, b2⟩ := g3 h
      simp only [h1, h2, ne_eq, not_true_eq_false, if_false, List.length_append]
      constructor
      · constructor
        · intro hx
          obtain ⟨c1, c2⟩ := b1.1 hx
          obtain ⟨c3, c4⟩ := a1.1 c1
          rw [a2 c1, List.length_append] at c2
          exact ⟨c3, by omega⟩
        · rintro ⟨c1, c2⟩
          have c3 := a1.2 ⟨c1, by omega⟩
          exact b1.2 ⟨c3, by rw [a2 c3, List.length_append]; omega⟩
      · intro hx
        have c1 := (b1.1 hx).1
        rw [b2 hx, a2 c1, List.append_assoc]
    · rw [g1 h0] at h; exact absurd h h0
theorem Wri.fail {e : Int} (he : e ≠ 0) : Wri ([], e) (spFail e) := by
  intro s hs
  unfold spFail
  refine ⟨fun h => by rw [if_neg h], fun h => by rw [if_pos h], fun h => ?_, by split <;> exact hs⟩
  split at h
  · exact absurd h he
  · rename_i h'; exact absurd h h'
theorem Wri.put (x : Int) (n : Nat) : Wri (spBE x n, 0) (spPutE x n) := by
  intro s hs
  refine ⟨fun h => by unfold spPutE; split <;> rfl, fun h => by unfold spPutE; split <;> exact h, fun h => ?_, spPutE_le _ _ hs⟩
  unfold spPutE
  rw [spBE_len]
  split
  · constructor
    · constructor
      · intro h'; cases h'
      · rintro ⟨_, h'⟩; omega
    · intro h'; cases h'
  · constructor
    · constructor
      · intro h'; exact ⟨h', by omega⟩
      · rintro ⟨h', _⟩; exact h'
    · intro _; rfl
theorem Wri.raw (p : List Int) : Wri (p, 0) (spRawE p) := by
  intro s hs
  refine ⟨fun h => by unfold spRawE; split <;> rfl, fun h => by unfold spRawE; split <;> exact h, fun h => ?_, spRawE_le _ hs⟩
  have hp : (p, (0 : Int)).1.length = p.length := rfl
  rw [hp]
  unfold spRawE
  split
  · constructor
    · constructor
      · intro h'; cases h'
      · rintro ⟨_, h'⟩; omega
    · intro h'; cases h'
  · constructor
    · constructor
      · intro h'; exact ⟨h', by omega⟩
      · rintro ⟨h', _⟩; exact h'
    · intro _; rfl
theorem Wri.ofEq {r r' : List Int × Int} {f : EnS → EnS} (h : Wri r f) (e : r = r') : Wri r' f := e ▸ h
theorem Wri.nop : Wri ([], 0) fun s => s := by
  intro s hs
  exact ⟨fun _ => rfl, fun h => h, fun _ => ⟨⟨fun h => ⟨h, by simpa using hs⟩, fun h => h.1⟩, fun _ => by simp⟩, hs⟩
def spTxt (t : List Int) : List Int × Int := if (spUtf t).2 = false then ([], 6) else if 255 < t.length then ([], 4) else (spBE t.length 2 ++ t, 0)
theorem Wri.str (t : List Int) : Wri (spTxt t) (spStrE t) := by
  unfold spTxt
  by_cases h1 : (spUtf t).2 = false
  · rw [if_pos h1]
    have : spStrE t = spFail 6 := funext fun s => by unfold spStrE; rw [if_pos h1]
    rw [this]; exact Wri.fail (by decide)
  · rw [if_neg h1]
    by_cases h2 : 255 < t.length
    · rw [if_pos h2]
      have : spStrE t = spFail 4 := funext fun s => by unfold spStrE; rw [if_neg h1, if_pos (by omega)]
      rw [this]; exact Wri.fail (by decide)
    · rw [if_neg h2]
      have : spStrE t = fun s => spRawE t (spPutE t.length 2 s) := funext fun s => by unfold spStrE; rw [if_neg h1, if_neg (by omega)]
      rw [this]
      exact ((Wri.put _ _).seq (Wri.raw _)).ofEq (by unfold spSeq; simp)
def spNam (n : Bool × (List Int × Unit)) : List Int × Int := if n.1 = true then (if n.2.1.length = 0 then (spBE (-1) 2, 0) else ([], 70)) else spTxt n.2.1
theorem Wri.name (n : Bool × (List Int × Unit)) : Wri (spNam n) (spNameE n) := by
  unfold spNam
  by_cases h1 : n.1 = true
  · rw [if_pos h1]
    by_cases h2 : n.2.1 = []
    · rw [if_pos (by rw [h2]; rfl)]
      have : spNameE n = spPutE (-1) 2 := funext fun s => by unfold spNameE; rw [if_neg (fun h => h.2 h2), if_pos h1]
      rw [this]; exact Wri.put _ _
    · rw [if_neg (fun h => h2 (List.eq_nil_of_length_eq_zero h))]
      have : spNameE n = spFail 70 := funext fun s => by unfold spNameE; rw [if_pos ⟨h1, h2⟩]
      rw [this]; exact Wri.fail (by decide)
  · rw [if_neg h1]
    have : spNameE n = spStrE n.2.1 := funext fun s => by unfold spNameE; rw [if_neg (fun h => h1 h.1), if_neg h1]
    rw [this]; exact Wri.str _
def spBlo (n : Bool × (List Int × Unit)) : List Int × Int := if n.1 = true then (if n.2.1.length = 0 then (spBE (-1) 4, 0) else ([], 70)) else (spBE n.2.1.length 4 ++ n.2.1, 0)
theorem Wri.blob (n : Bool × (List Int × Unit)) (hn : n.2.1.length ≤ 2147483647) : Wri (spBlo n) (spBlobE n) := by
  unfold spBlo
  by_cases h1 : n.1 = true
  · rw [if_pos h1]
    by_cases h2 : n.2.1.length = 0
    · rw [if_pos h2]
      have : spBlobE n = spPutE (-1) 4 := funext fun s => by unfold spBlobE; rw [if_neg (fun h => by omega), if_pos h1]
      rw [this]; exact Wri.put _ _
    · rw [if_neg h2]
      have : spBlobE n = spFail 70 := funext fun s => by unfold spBlobE; rw [if_pos ⟨h1, by omega⟩]
      rw [this]; exact Wri.fail (by decide)
  · rw [if_neg h1]
    have hwr : IntKind.i32.wrap (n.2.1.length : Int) = n.2.1.length := wrap_id (by simp [inR, IntKind.min, IntKind.max, IntKind.signed, IntKind.bits]; omega)
    have : spBlobE n = fun s => spRawE n.2.1 (spPutE n.2.1.length 4 s) := funext fun s => by unfold spBlobE; rw [if_neg (fun h => h1 h.1), if_neg h1, hwr]
    rw [this]
    exact ((Wri.put _ _).seq (Wri.raw _)).ofEq (by unfold spSeq; simp)
def spAll {α : Type} (one : α → List Int × Int) : List α → List Int × Int
  | [] => ([], 0)
  | x :: xs => spSeq (one x) (spAll one xs)
theorem Wri.fold {α : Type} {one : α → List Int × Int} {f : α → EnS → EnS} : ∀ {xs : List α}, (∀ x ∈ xs, Wri (one x) (f x)) → Wri (spAll one xs) fun s => xs.foldl (fun s x => f x s) s
  | [], _ => Wri.nop
  | x :: xs, h => (h x (by simp)).seq (Wri.fold fun y hy => h y (List.mem_cons_of_mem _ hy))
def spArrW {α : Type} (one : α → List Int × Int) (xs : List α) : List Int × Int := if 16 < xs.length then ([], 9) else spSeq (spBE xs.length 4, 0) (spAll one xs)
theorem Wri.items {α : Type} {one : α → List Int × Int} {f : α → EnS → EnS} {xs : List α} (h : ∀ x ∈ xs, Wri (one x) (f x)) : Wri (spArrW one xs) (spItems f xs) := by
  unfold spArrW
  by_cases h1 : 16 < xs.length
  · rw [if_pos h1]
    have : spItems f xs = spFail 9 := funext fun s => by unfold spItems; rw [if_pos (by omega)]
    rw [this]; exact Wri.fail (by decide)
  · rw [if_neg h1]
    have : spItems f xs = fun s => xs.foldl (fun s x => f x s) (spPutE xs.length 4 s) := funext fun s => by unfold spItems; rw [if_neg (by omega)]
    rw [this]
    exact (Wri.put _ _).seq (Wri.fold h)
theorem Wri.done {r : List Int × Int} {f : EnS → EnS} (h : Wri r f) (e : Int) : (spDoneO (f (e, (false, []))), spDoneE (f (e, (false, [])))) = if e ≠ 0 then ([], e) else if r.2 ≠ 0 then ([], r.2) else if 130048 < r.1.length then ([], 4) else (r.1, 0) := by
  obtain ⟨h1, h2, h3, _⟩ := h (e, (false, [])) (by simp)
  by_cases he : e = 0
  · subst he
    have h2 := h2 rfl
    by_cases hr : r.2 = 0
    · have h0 : (f (0, (false, []))).1 = 0 := by rw [h2]; exact hr
      obtain ⟨h4, h5⟩ := h3 h0
      have h4 : (f (0, (false, []))).2.1 = false ↔ r.1.length ≤ 130048 :=
        ⟨fun hx => by have := (h4.1 hx).2; simpa using this, fun hx => h4.2 ⟨rfl, by simpa using hx⟩⟩
      by_cases hl : 130048 < r.1.length
      · have hf : (f (0, (false, []))).2.1 = true := by
          cases hx : (f (0, (false, []))).2.1 with
          | true => rfl
          | false => have := h4.1 hx; omega
        simp [spDoneO, spDoneE, h0, hf, hr, hl]
      · have hf := h4.2 (by omega)
        have h6 := h5 hf
        simp [spDoneO, spDoneE, h0, hf, hr, hl, h6]
    · have h0 : ¬ (f (0, (false, []))).1 = 0 := by rw [h2]; exact hr
      simp [spDoneO, spDoneE, h2, hr]
  · have h1 := h1 he
    simp [spDoneO, spDoneE, h1, he]
end
end Go.Proofs.YtmlgepgcofmpeaaGreat.Sym
