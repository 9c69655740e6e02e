/- offsets.EncodeReq: what it writes. -/
import Derived.Test.YtjpeefegeobgfaaGreatQ6

namespace Go.Proofs.YtjpeefegeobgfaaGreat.Sym
open Go
set_option linter.unusedSimpArgs false
set_option linter.unusedVariables false
noncomputable section
abbrev toqPart : Ty := .prod (.int .i32) (.prod (.int .i32) (.prod (.int .i64) (.prod (.int .i32) .unit)))
abbrev toqTopic : Ty := .prod .str (.prod (.sl 113 toqPart) .unit)
abbrev toqMsg : Ty := .prod (.int .i32) (.prod (.int .i8) (.prod (.sl 111 toqTopic) .unit))
def spoqPE (v : Int) (p : toqPart.den) (s : EnS) : EnS := spHasE v 0 0 p.2.2.2.1 4 (spPutE p.2.2.1 8 (spHasE v 3 3 p.2.1 4 (spPutE p.1 4 (s))))
theorem spoqPE_le {s : EnS} (v : Int) (p : toqPart.den) (h : s.2.2.length ≤ 130048) : (spoqPE v p s).2.2.length ≤ 130048 :=
  spHasE_le _ _ _ _ _ (spPutE_le _ _ (spHasE_le _ _ _ _ _ (spPutE_le _ _ (h))))
abbrev iooqPart : Io := ⟨[.dat toqPart true false, .ptr 0 0], oEnc1, [], [], none⟩
def FoqPart (d : iooqPart.In) : Tr iooqPart.Res := .ite (encOk d.2.2) (.ret (.ret ((), encOut1 d.2.2.1.2.1 (spoqPE d.2.2.1.2.1 d.1.1 (encSt d.2.2))))) .no
abbrev csoqPart : List (Nat × Hc) := [(56, ioHd ioeI32 FeI32), (64, ioHd ioeI64 FeI64), (57, ioHd ioeHas FeHas)]
def hdoqPart : Hd := hdT csoqPart
def lpoqPart : Lp := lpT []
def bodyoqPart (a0 : Int) (a1 : Int) (a2 : Int) (a3 : Int) (a4 : Int) (a5 : Int) (a6 : Bool) (a7 : List Int) (a8 : Int) : Option iooqPart.Res := bif decide (a8 = 130048) && decide (a7.length ≤ 130048) then bif decide (130048 = 130048) && decide ((spPutE a0 4 (a5, a6, a7)).snd.snd.length ≤ 130048) then bif decide (3 ≤ a4) && decide (a4 ≤ 3) then bif decide (130048 = 130048) && decide ((spPutE a0 4 (a5, a6, a7)).snd.snd.length ≤ 130048) then bif decide (130048 = 130048) && decide ((spPutE a1 4 (spPutE a0 4 (a5, a6, a7))).snd.snd.length ≤ 130048) then bif decide (130048 = 130048) && decide ((spPutE a2 8 (spPutE a1 4 (spPutE a0 4 (a5, a6, a7)))).snd.snd.length ≤ 130048) then bif decide (0 ≤ a4) && decide (a4 ≤ 0) then bif decide (130048 = 130048) && decide ((spPutE a2 8 (spPutE a1 4 (spPutE a0 4 (a5, a6, a7)))).snd.snd.length ≤ 130048) then some (Out.ret ((), ((), ()), ((), a4, (spPutE a3 4 (spPutE a2 8 (spPutE a1 4 (spPutE a0 4 (a5, a6, a7))))).fst, (spPutE a3 4 (spPutE a2 8 (spPutE a1 4 (spPutE a0 4 (a5, a6, a7))))).snd.fst, ()), ((spPutE a3 4 (spPutE a2 8 (spPutE a1 4 (spPutE a0 4 (a5, a6, a7))))).snd.snd, 130048, ()), ())) else none else some (Out.ret ((), ((), ()), ((), a4, (spPutE a2 8 (spPutE a1 4 (spPutE a0 4 (a5, a6, a7)))).fst, (spPutE a2 8 (spPutE a1 4 (spPutE a0 4 (a5, a6, a7)))).snd.fst, ()), ((spPutE a2 8 (spPutE a1 4 (spPutE a0 4 (a5, a6, a7)))).snd.snd, 130048, ()), ())) else none else none else none else bif decide (130048 = 130048) && decide ((spPutE a0 4 (a5, a6, a7)).snd.snd.length ≤ 130048) then bif decide (130048 = 130048) && decide ((spPutE a2 8 (spPutE a0 4 (a5, a6, a7))).snd.snd.length ≤ 130048) then bif decide (0 ≤ a4) && decide (a4 ≤ 0) then bif decide (130048 = 130048) && decide ((spPutE a2 8 (spPutE a0 4 (a5, a6, a7))).snd.snd.length ≤ 130048) then some (Out.ret ((), ((), ()), ((), a4, (spPutE a3 4 (spPutE a2 8 (spPutE a0 4 (a5, a6, a7)))).fst, (spPutE a3 4 (spPutE a2 8 (spPutE a0 4 (a5, a6, a7)))).snd.fst, ()), ((spPutE a3 4 (spPutE a2 8 (spPutE a0 4 (a5, a6, a7)))).snd.snd, 130048, ()), ())) else none else some (Out.ret ((), ((), ()), ((), a4, (spPutE a2 8 (spPutE a0 4 (a5, a6, a7))).fst, (spPutE a2 8 (spPutE a0 4 (a5, a6, a7))).snd.fst, ()), ((spPutE a2 8 (spPutE a0 4 (a5, a6, a7))).snd.snd, 130048, ()), ())) else none else none else none else none
theorem runoqPart (a0 : Int) (a1 : Int) (a2 : Int) (a3 : Int) (a4 : Int) (a5 : Int) (a6 : Bool) (a7 : List Int) (a8 : Int) : Io.run tt hdoqPart dr lpoqPart iooqPart Go.Proofs.Tryz.f63 (((a0, a1, a2, a3, ()), (), ()), ((), ()), ((), a4, a5, a6, ()), (a7, a8, ()), ()) = bodyoqPart a0 a1 a2 a3 a4 a5 a6 a7 a8 := by kernel_rfl
theorem okoqPart : HcOk prog 63 (ioHd iooqPart FoqPart) := by
  refine fn_sound (n := 400) hm (cs := csoqPart) (.cons okeI32 (.cons okeI64 (.cons okeHas .nil))) (lp := lpoqPart) (fn := Go.Proofs.Tryz.f63) (by kernel_rfl) (by kernel_rfl) (by kernel_rfl) iooqPart (.done (by kernel_rfl)) FoqPart ?_
  rintro ⟨⟨⟨(ix : Int), (ep : Int), (ti : Int), (mo : Int), ⟨⟩⟩, ⟨⟩, ⟨⟩⟩, ⟨⟨⟩, ⟨⟩⟩, ⟨⟨⟩, (v : Int), (e : Int), (f : Bool), ⟨⟩⟩, ⟨(b : List Int), (m : Int), ⟨⟩⟩, ⟨⟩⟩ out hw ho
  obtain ⟨hg, ho⟩ := Tr.guard ho
  obtain ⟨rfl, hb⟩ := encOk_iff (v := v) (e := e) (f := f) hg
  cases ho
  refine (runoqPart ix ep ti mo v e f b 130048).trans ?_
  unfold bodyoqPart
  have hg : ∀ s : EnS, s.2.2.length ≤ 130048 → (decide ((130048 : Int) = 130048) && decide (s.2.2.length ≤ 130048)) = true := fun s h => by simpa using h
  have hb : (e, (f, b)).2.2.length ≤ 130048 := hb
  show _ = some (Out.ret ((), encOut1 v (spoqPE v (ix, (ep, (ti, (mo, ())))) (e, f, b))))
  refine (bif_true (hg _ hb) _ _).trans ?_
  have l0_1 := spPutE_le ix 4 hb
  refine (bif_true (hg _ l0_1) _ _).trans ?_
  by_cases h1_1 : 3 ≤ v ∧ v ≤ 3
  · refine (bif_true (by simpa using h1_1) _ _).trans ?_
    refine (bif_true (hg _ l0_1) _ _).trans ?_
    have l1_1 := spPutE_le ep 4 l0_1
    refine (bif_true (hg _ l1_1) _ _).trans ?_
    have l2_2 := spPutE_le ti 8 l1_1
    refine (bif_true (hg _ l2_2) _ _).trans ?_
    by_cases h3_2 : 0 ≤ v ∧ v ≤ 0
    · refine (bif_true (by simpa using h3_2) _ _).trans ?_
      refine (bif_true (hg _ l2_2) _ _).trans ?_
      have l3_2 := spPutE_le mo 4 l2_2
      simp only [spoqPE, spHasE_in h1_1, spHasE_in h3_2]
    · refine (bif_false (Bool.eq_false_iff.2 fun h' => h3_2 (by simpa using h')) _ _).trans ?_
      simp only [spoqPE, spHasE_in h1_1, spHasE_out h3_2]
  · refine (bif_false (Bool.eq_false_iff.2 fun h' => h1_1 (by simpa using h')) _ _).trans ?_
    refine (bif_true (hg _ l0_1) _ _).trans ?_
    have l2_2 := spPutE_le ti 8 l0_1
    refine (bif_true (hg _ l2_2) _ _).trans ?_
    by_cases h3_2 : 0 ≤ v ∧ v ≤ 0
    · refine (bif_true (by simpa using h3_2) _ _).trans ?_
      refine (bif_true (hg _ l2_2) _ _).trans ?_
      have l3_2 := spPutE_le mo 4 l2_2
      simp only [spoqPE, spHasE_out h1_1, spHasE_in h3_2]
    · refine (bif_false (Bool.eq_false_iff.2 fun h' => h3_2 (by simpa using h')) _ _).trans ?_
      simp only [spoqPE, spHasE_out h1_1, spHasE_out h3_2]
def spoqPsE (v : Int) (xs : List toqPart.den) (s : EnS) : EnS := spItems (spoqPE v) xs s
abbrev iooqParts : Io := ⟨[.ptr 0 0, .dat (.sl 113 toqPart) false false, .fnc 63 false [2]], oEncC, [], [], none⟩
def FoqParts (d : iooqParts.In) : Tr iooqParts.Res := .ite (encOkC d.2) (.ret (.ret ((), encOutC d.2.1.2.1 (spoqPsE d.2.1.2.1 d.1.2.1 (encStC d.2))))) .no
abbrev csoqParts : List (Nat × Hc) := [(137, ioHd ioeFail FeFail), (56, ioHd ioeI32 FeI32), (63, ioHd iooqPart FoqPart)]
def hdoqParts : Hd := hdT csoqParts
abbrev looqParts_5 : Lo := ⟨⟨[.any, .any, .one (.fnp 63 false [2]), .any, .any, .any, .any, .any, .any, .any, .any, .any, .any, .any, .any, .any, .any, .any, .one (.hol (.sl 113 toqPart)), .one (.hol (.int IntKind.i64)), .one (.hol (.int IntKind.i64)), .any, .any, .any, .any, .any, .any, .any], [some [.ptr 1 0, .hol (.int IntKind.i64), .hol (.int IntKind.i64), .hol .bool], some [.onl 5 (Ty.int IntKind.u8) 514, .hol (.int IntKind.i64)], some [.ptr 0 0]]⟩, [(.exit 0, ⟨[.any, .any, .any, .any, .any, .any, .any, .any, .any, .any, .any, .any, .any, .any, .any, .any, .any, .any, .any, .any, .any, .any, .any, .any, .any, .any, .any, .any], [some [.ptr 1 0, .hol (.int IntKind.i64), .hol (.int IntKind.i64), .hol .bool], some [.onl 5 (Ty.int IntKind.u8) 514, .hol (.int IntKind.i64)], some [.ptr 0 0]]⟩)]⟩
-- FoqParts_5 : looqParts_5.st.den → Tr (DenX looqParts_5.xs) | ((h6, (h7, (h8, ()))), ((h9, (h10, (h11, ()))), ((h12, (h13, ())), ((), ()))))
def FoqParts_5 (d : looqParts_5.st.den) : Tr (DenX looqParts_5.xs) :=
  .ite (decide (d.1.2.2.1 = 0) && (decide (d.1.2.1 = (d.1.1.length : Int)) && (decide (d.2.2.1.2.1 = 130048) && decide (d.2.2.1.1.length ≤ 130048)))) (.ret (.ret ((), ((), encOutB d.2.1.1 (d.1.1.foldl (fun s x => spoqPE d.2.1.1 x s) (d.2.1.2.1, (d.2.1.2.2.1, d.2.2.1.1))))))) .no
def lpoqParts : Lp := lpT [(5, loHd looqParts_5 FoqParts_5)]
def stepoqParts_5 {R : Type} (h6 : List toqPart.den) (h7 : Int) (h8 : Int) (h9 : Int) (h10 : Int) (h11 : Bool) (h12 : List Int) (h13 : Int) (next : List toqPart.den → Int → Int → Int → Int → Bool → List Int → Int → Option R) (out : DenX looqParts_5.xs → Option R) : Option R := bif decide (h8 < h7) then bif decide (0 ≤ h8) && decide (h8 < (↑h6.length : Int)) then bif decide (h13 = 130048) && decide (h12.length ≤ 130048) then next (h6) (h7) (IntKind.i64.wrap (h8 + 1)) (h9) ((spoqPE h9 (h6.getD h8.toNat (0, 0, 0, 0, ())) (h10, h11, h12)).fst) ((spoqPE h9 (h6.getD h8.toNat (0, 0, 0, 0, ())) (h10, h11, h12)).snd.fst) ((spoqPE h9 (h6.getD h8.toNat (0, 0, 0, 0, ())) (h10, h11, h12)).snd.snd) (130048) else none else none else out (.ret ((), ((), ((h9, (h10, (h11, ()))), ((h12, (h13, ())), ((), ()))))))
def itoqParts_5 (n : Nat) (h6 : List toqPart.den) (h7 : Int) (h8 : Int) (h9 : Int) (h10 : Int) (h11 : Bool) (h12 : List Int) (h13 : Int) : Option (DenX looqParts_5.xs) := lpN tt hdoqParts dr lpoqParts 3 Go.Proofs.Tryz.f62 (topL Go.Proofs.Tryz.f62 0) n (looqParts_5.st.mk' ((h6, (h7, (h8, ()))), ((h9, (h10, (h11, ()))), ((h12, (h13, ())), ((), ()))))) (decX looqParts_5.xs)
theorem sloqParts_5 (n : Nat) (h6 : List toqPart.den) (h7 : Int) (h8 : Int) (h9 : Int) (h10 : Int) (h11 : Bool) (h12 : List Int) (h13 : Int) : itoqParts_5 (n + 1) h6 h7 h8 h9 h10 h11 h12 h13 = stepoqParts_5 h6 h7 h8 h9 h10 h11 h12 h13 (itoqParts_5 n) some := by kernel_rfl
theorem loopoqParts {xs : List toqPart.den} (v : Int) (hl : xs.length ≤ maxLen) : ∀ (k i : Nat) (s : EnS), xs.length < i + k → i ≤ xs.length → s.2.2.length ≤ 130048 →
    itoqParts_5 k xs (xs.length : Int) i v s.1 s.2.1 s.2.2 130048 = some (.ret ((), ((), encOutB v ((xs.drop i).foldl (fun s x => spoqPE v x s) s)))) := by
  intro k
  induction k with
  | zero => intro i s h; omega
  | succ k ih =>
    intro i s h1 h2 h3
    rw [sloqParts_5]
    unfold stepoqParts_5
    by_cases hi : i < xs.length
    · refine (bif_true (decide_eq_true (show (i : Int) < (xs.length : Int) by omega)) _ _).trans ?_
      refine (bif_true (by simpa using hi) _ _).trans ?_
      simp only [Int.toNat_natCast, getD_lt hi, wrap_succ hi hl]
      have g : (decide ((130048 : Int) = 130048) && decide (s.2.2.length ≤ 130048)) = true := by
        simpa using h3
      refine (bif_true g _ _).trans ?_
      rw [List.drop_eq_getElem_cons hi]
      exact ih (i + 1) (spoqPE v xs[i] s) (by omega) (by omega) (spoqPE_le v _ h3)
    · refine (bif_false (by simp; omega) _ _).trans ?_
      rw [List.drop_of_length_le (by omega)]
      rfl
def bodyoqParts (a0 : List toqPart.den) (a1 : Int) (a2 : Int) (a3 : Bool) (a4 : List Int) (a5 : Int) : Option iooqParts.Res := bif decide (16 < (↑a0.length : Int)) then bif decide (a5 = 130048) && decide (a4.length ≤ 130048) then some (Out.ret ((), ((), a1, (spFail 9 (a2, a3, a4)).fst, (spFail 9 (a2, a3, a4)).snd.fst, ()), ((spFail 9 (a2, a3, a4)).snd.snd, 130048, ()), ((), ()), ())) else none else bif decide (a5 = 130048) && decide (a4.length ≤ 130048) then (FoqParts_5 ((a0, ((↑a0.length : Int), (0, ()))), ((a1, ((spPutE (IntKind.i32.wrap (↑a0.length : Int)) 4 (a2, a3, a4)).fst, ((spPutE (IntKind.i32.wrap (↑a0.length : Int)) 4 (a2, a3, a4)).snd.fst, ()))), (((spPutE (IntKind.i32.wrap (↑a0.length : Int)) 4 (a2, a3, a4)).snd.snd, (130048, ())), ((), ()))))).run fun y => match y with | .ret ((), ((), (x27, x28, x29, ()), (x30, x31, ()), (), ())) => (some (Out.ret ((), ((), x27, x28, x29, ()), (x30, x31, ()), ((), ()), ()))) else none
theorem runoqParts (a0 : List toqPart.den) (a1 : Int) (a2 : Int) (a3 : Bool) (a4 : List Int) (a5 : Int) : Io.run tt hdoqParts dr lpoqParts iooqParts Go.Proofs.Tryz.f62 (((), a0, (), ()), ((), a1, a2, a3, ()), (a4, a5, ()), ((), ()), ()) = bodyoqParts a0 a1 a2 a3 a4 a5 := by kernel_rfl
theorem okoqParts : HcOk prog 62 (ioHd iooqParts FoqParts) := by
  refine fn_sound (n := 400) hm (cs := csoqParts) (.cons okeFail (.cons okeI32 (.cons okoqPart .nil))) (lp := lpoqParts) (fn := Go.Proofs.Tryz.f62) (by kernel_rfl) (by kernel_rfl) (by kernel_rfl) iooqParts (.step (h0 := loHd looqParts_5 FoqParts_5) (by kernel_rfl) (loop_sound (n := 400) hm (cs := csoqParts) (.cons okeFail (.cons okeI32 (.cons okoqPart .nil))) (lp := lpoqParts) (fn := Go.Proofs.Tryz.f62) (.done (by kernel_rfl)) looqParts_5 FoqParts_5 ?_) (.done (by kernel_rfl))) FoqParts ?_
  · rintro ⟨⟨(xs : List toqPart.den), (n : Int), (i : Int), ⟨⟩⟩, ⟨⟨(v : Int), (e : Int), (f : Bool), ⟨⟩⟩, ⟨(b : List Int), (m : Int), ⟨⟩⟩, ⟨⟨⟩, ⟨⟩⟩⟩⟩ y hw hy
    obtain ⟨hg, hy⟩ := Tr.guard hy
    simp only [Bool.and_eq_true, decide_eq_true_eq] at hg
    obtain ⟨rfl, rfl, rfl, h4⟩ := hg
    have h4 : b.length ≤ 130048 := h4
    have hl : xs.length ≤ maxLen := hw.1.1.1
    refine ⟨xs.length + 1, (loopoqParts v hl (xs.length + 1) 0 (e, (f, b)) (by omega) (by omega) h4).trans ?_⟩
    rw [← hy]; rfl
  · rintro ⟨⟨⟨⟩, (xs : List toqPart.den), ⟨⟩, ⟨⟩⟩, ⟨⟨⟩, (v : Int), (e : Int), (f : Bool), ⟨⟩⟩, ⟨(b : List Int), (m : Int), ⟨⟩⟩, ⟨⟨⟩, ⟨⟩⟩, ⟨⟩⟩ out hw ho
    obtain ⟨hg, ho⟩ := Tr.guard ho
    obtain ⟨rfl, hb⟩ := encOk_iff (v := v) (e := e) (f := f) hg
    cases ho
    refine (runoqParts xs v e f b 130048).trans ?_
    unfold bodyoqParts
    have g : (decide ((130048 : Int) = 130048) && decide (b.length ≤ 130048)) = true := by simpa using hb
    show _ = some (Out.ret ((), encOutC v (spItems (spoqPE v) xs (e, f, b))))
    unfold spItems
    by_cases h : 16 < (xs.length : Int)
    · rw [if_pos h]
      refine (bif_true (decide_eq_true h) _ _).trans ?_
      exact bif_true g _ _
    · rw [if_neg h]
      refine (bif_false (decide_eq_false h) _ _).trans ?_
      refine (bif_true g _ _).trans ?_
      have hw32 : IntKind.i32.wrap (xs.length : Int) = xs.length := wrap_id (by simp [inR, IntKind.min, IntKind.max, IntKind.signed, IntKind.bits]; omega)
      rw [hw32]
      have c1 : (decide ((0 : Int) = 0) && (decide ((xs.length : Int) = (xs.length : Int)) && (decide ((130048 : Int) = 130048) && decide ((spPutE xs.length 4 (e, f, b)).2.2.length ≤ 130048)))) = true := by
        simpa using spPutE_le (s := (e, f, b)) _ 4 hb
      have e1 : FoqParts_5 ((xs, ((xs.length : Int), (0, ()))), ((v, ((spPutE xs.length 4 (e, f, b)).1, ((spPutE xs.length 4 (e, f, b)).2.1, ()))), (((spPutE xs.length 4 (e, f, b)).2.2, (130048, ())), ((), ())))) =
          .ite true (.ret (.ret ((), ((), encOutB v (xs.foldl (fun s x => spoqPE v x s) (spPutE xs.length 4 (e, f, b))))))) .no := congrArg (fun c => Tr.ite c _ _) c1
      rw [e1]
      rfl
def spoqTE (v : Int) (t : toqTopic.den) (s : EnS) : EnS := spoqPsE v t.2.1 (spStrE t.1 s)
abbrev iooqTopic : Io := ⟨[.dat toqTopic true false, .ptr 0 0], oEnc1, [], [], none⟩
def FoqTopic (d : iooqTopic.In) : Tr iooqTopic.Res := .ite (encOk d.2.2) (.ret (.ret ((), encOut1 d.2.2.1.2.1 (spoqTE d.2.2.1.2.1 d.1.1 (encSt d.2.2))))) .no
abbrev csoqTopic : List (Nat × Hc) := [(61, ioHd ioeStr FeStr), (62, ioHd iooqParts FoqParts)]
def hdoqTopic : Hd := hdT csoqTopic
def lpoqTopic : Lp := lpT []
def bodyoqTopic (a0 : List Int) (a1 : List toqPart.den) (a2 : Int) (a3 : Int) (a4 : Bool) (a5 : List Int) (a6 : Int) : Option iooqTopic.Res := bif decide (a6 = 130048) && decide (a5.length ≤ 130048) then bif decide (130048 = 130048) && decide ((spStrE a0 (a3, a4, a5)).snd.snd.length ≤ 130048) then some (Out.ret ((), ((), ()), ((), a2, (spoqPsE a2 a1 (spStrE a0 (a3, a4, a5))).fst, (spoqPsE a2 a1 (spStrE a0 (a3, a4, a5))).snd.fst, ()), ((spoqPsE a2 a1 (spStrE a0 (a3, a4, a5))).snd.snd, 130048, ()), ())) else none else none
theorem runoqTopic (a0 : List Int) (a1 : List toqPart.den) (a2 : Int) (a3 : Int) (a4 : Bool) (a5 : List Int) (a6 : Int) : Io.run tt hdoqTopic dr lpoqTopic iooqTopic Go.Proofs.Tryz.f60 (((a0, a1, ()), (), ()), ((), ()), ((), a2, a3, a4, ()), (a5, a6, ()), ()) = bodyoqTopic a0 a1 a2 a3 a4 a5 a6 := by kernel_rfl
theorem okoqTopic : HcOk prog 60 (ioHd iooqTopic FoqTopic) := by
  refine fn_sound (n := 400) hm (cs := csoqTopic) (.cons okeStr (.cons okoqParts .nil)) (lp := lpoqTopic) (fn := Go.Proofs.Tryz.f60) (by kernel_rfl) (by kernel_rfl) (by kernel_rfl) iooqTopic (.done (by kernel_rfl)) FoqTopic ?_
  rintro ⟨⟨⟨(t : List Int), (ps : List toqPart.den), ⟨⟩⟩, ⟨⟩, ⟨⟩⟩, ⟨⟨⟩, ⟨⟩⟩, ⟨⟨⟩, (v : Int), (e : Int), (f : Bool), ⟨⟩⟩, ⟨(b : List Int), (m : Int), ⟨⟩⟩, ⟨⟩⟩ out hw ho
  obtain ⟨hg, ho⟩ := Tr.guard ho
  obtain ⟨rfl, hb⟩ := encOk_iff (v := v) (e := e) (f := f) hg
  cases ho
  refine (runoqTopic t ps v e f b 130048).trans ?_
  unfold bodyoqTopic
  refine (bif_true (by simpa using hb) _ _).trans ?_
  refine (bif_true (by simpa using spStrE_le (s := (e, f, b)) t hb) _ _).trans ?_
  rfl
theorem spoqTE_le {s : EnS} (v : Int) (t : toqTopic.den) (h : s.2.2.length ≤ 130048) : (spoqTE v t s).2.2.length ≤ 130048 := spItems_le (fun x s => spoqPE_le v x) _ (spStrE_le _ h)
def spoqTsE (v : Int) (xs : List toqTopic.den) (s : EnS) : EnS := spItems (spoqTE v) xs s
abbrev iooqTopics : Io := ⟨[.ptr 0 0, .dat (.sl 111 toqTopic) false false, .fnc 60 false [2]], oEncC, [], [], none⟩
def FoqTopics (d : iooqTopics.In) : Tr iooqTopics.Res := .ite (encOkC d.2) (.ret (.ret ((), encOutC d.2.1.2.1 (spoqTsE d.2.1.2.1 d.1.2.1 (encStC d.2))))) .no
abbrev csoqTopics : List (Nat × Hc) := [(137, ioHd ioeFail FeFail), (56, ioHd ioeI32 FeI32), (60, ioHd iooqTopic FoqTopic)]
def hdoqTopics : Hd := hdT csoqTopics
abbrev looqTopics_5 : Lo := ⟨⟨[.any, .any, .one (.fnp 60 false [2]), .any, .any, .any, .any, .any, .any, .any, .any, .any, .any, .any, .any, .any, .any, .any, .one (.hol (.sl 111 toqTopic)), .one (.hol (.int IntKind.i64)), .one (.hol (.int IntKind.i64)), .any, .any, .any, .any, .any, .any, .any], [some [.ptr 1 0, .hol (.int IntKind.i64), .hol (.int IntKind.i64), .hol .bool], some [.onl 5 (Ty.int IntKind.u8) 514, .hol (.int IntKind.i64)], some [.ptr 0 0]]⟩, [(.exit 0, ⟨[.any, .any, .any, .any, .any, .any, .any, .any, .any, .any, .any, .any, .any, .any, .any, .any, .any, .any, .any, .any, .any, .any, .any, .any, .any, .any, .any, .any], [some [.ptr 1 0, .hol (.int IntKind.i64), .hol (.int IntKind.i64), .hol .bool], some [.onl 5 (Ty.int IntKind.u8) 514, .hol (.int IntKind.i64)], some [.ptr 0 0]]⟩)]⟩
-- FoqTopics_5 : looqTopics_5.st.den → Tr (DenX looqTopics_5.xs) | ((h6, (h7, (h8, ()))), ((h9, (h10, (h11, ()))), ((h12, (h13, ())), ((), ()))))
def FoqTopics_5 (d : looqTopics_5.st.den) : Tr (DenX looqTopics_5.xs) :=
  .ite (decide (d.1.2.2.1 = 0) && (decide (d.1.2.1 = (d.1.1.length : Int)) && (decide (d.2.2.1.2.1 = 130048) && decide (d.2.2.1.1.length ≤ 130048)))) (.ret (.ret ((), ((), encOutB d.2.1.1 (d.1.1.foldl (fun s x => spoqTE d.2.1.1 x s) (d.2.1.2.1, (d.2.1.2.2.1, d.2.2.1.1))))))) .no
def lpoqTopics : Lp := lpT [(5, loHd looqTopics_5 FoqTopics_5)]
def stepoqTopics_5 {R : Type} (h6 : List toqTopic.den) (h7 : Int) (h8 : Int) (h9 : Int) (h10 : Int) (h11 : Bool) (h12 : List Int) (h13 : Int) (next : List toqTopic.den → Int → Int → Int → Int → Bool → List Int → Int → Option R) (out : DenX looqTopics_5.xs → Option R) : Option R := bif decide (h8 < h7) then bif decide (0 ≤ h8) && decide (h8 < (↑h6.length : Int)) then bif decide (h13 = 130048) && decide (h12.length ≤ 130048) then next (h6) (h7) (IntKind.i64.wrap (h8 + 1)) (h9) ((spoqTE h9 (h6.getD h8.toNat ([], [], ())) (h10, h11, h12)).fst) ((spoqTE h9 (h6.getD h8.toNat ([], [], ())) (h10, h11, h12)).snd.fst) ((spoqTE h9 (h6.getD h8.toNat ([], [], ())) (h10, h11, h12)).snd.snd) (130048) else none else none else out (.ret ((), ((), ((h9, (h10, (h11, ()))), ((h12, (h13, ())), ((), ()))))))
def itoqTopics_5 (n : Nat) (h6 : List toqTopic.den) (h7 : Int) (h8 : Int) (h9 : Int) (h10 : Int) (h11 : Bool) (h12 : List Int) (h13 : Int) : Option (DenX looqTopics_5.xs) := lpN tt hdoqTopics dr lpoqTopics 3 Go.Proofs.Tryz.f59 (topL Go.Proofs.Tryz.f59 0) n (looqTopics_5.st.mk' ((h6, (h7, (h8, ()))), ((h9, (h10, (h11, ()))), ((h12, (h13, ())), ((), ()))))) (decX looqTopics_5.xs)
theorem sloqTopics_5 (n : Nat) (h6 : List toqTopic.den) (h7 : Int) (h8 : Int) (h9 : Int) (h10 : Int) (h11 : Bool) (h12 : List Int) (h13 : Int) : itoqTopics_5 (n + 1) h6 h7 h8 h9 h10 h11 h12 h13 = stepoqTopics_5 h6 h7 h8 h9 h10 h11 h12 h13 (itoqTopics_5 n) some := by kernel_rfl
theorem loopoqTopics {xs : List toqTopic.den} (v : Int) (hl : xs.length ≤ maxLen) : ∀ (k i : Nat) (s : EnS), xs.length < i + k → i ≤ xs.length → s.2.2.length ≤ 130048 →
    itoqTopics_5 k xs (xs.length : Int) i v s.1 s.2.1 s.2.2 130048 = some (.ret ((), ((), encOutB v ((xs.drop i).foldl (fun s x => spoqTE v x s) s)))) := by
  intro k
  induction k with
  | zero => intro i s h; omega
  | succ k ih =>
    intro i s h1 h2 h3
    rw [sloqTopics_5]
    unfold stepoqTopics_5
    by_cases hi : i < xs.length
    · refine (bif_true (decide_eq_true (show (i : Int) < (xs.length : Int) by omega)) _ _).trans ?_
      refine (bif_true (by simpa using hi) _ _).trans ?_
      simp only [Int.toNat_natCast, getD_lt hi, wrap_succ hi hl]
      have g : (decide ((130048 : Int) = 130048) && decide (s.2.2.length ≤ 130048)) = true := by
        simpa using h3
      refine (bif_true g _ _).trans ?_
      rw [List.drop_eq_getElem_cons hi]
      exact ih (i + 1) (spoqTE v xs[i] s) (by omega) (by omega) (spoqTE_le v _ h3)
    · refine (bif_false (by simp; omega) _ _).trans ?_
      rw [List.drop_of_length_le (by omega)]
      rfl
def bodyoqTopics (a0 : List toqTopic.den) (a1 : Int) (a2 : Int) (a3 : Bool) (a4 : List Int) (a5 : Int) : Option iooqTopics.Res := bif decide (16 < (↑a0.length : Int)) then bif decide (a5 = 130048) && decide (a4.length ≤ 130048) then some (Out.ret ((), ((), a1, (spFail 9 (a2, a3, a4)).fst, (spFail 9 (a2, a3, a4)).snd.fst, ()), ((spFail 9 (a2, a3, a4)).snd.snd, 130048, ()), ((), ()), ())) else none else bif decide (a5 = 130048) && decide (a4.length ≤ 130048) then (FoqTopics_5 ((a0, ((↑a0.length : Int), (0, ()))), ((a1, ((spPutE (IntKind.i32.wrap (↑a0.length : Int)) 4 (a2, a3, a4)).fst, ((spPutE (IntKind.i32.wrap (↑a0.length : Int)) 4 (a2, a3, a4)).snd.fst, ()))), (((spPutE (IntKind.i32.wrap (↑a0.length : Int)) 4 (a2, a3, a4)).snd.snd, (130048, ())), ((), ()))))).run fun y => match y with | .ret ((), ((), (x27, x28, x29, ()), (x30, x31, ()), (), ())) => (some (Out.ret ((), ((), x27, x28, x29, ()), (x30, x31, ()), ((), ()), ()))) else none
theorem runoqTopics (a0 : List toqTopic.den) (a1 : Int) (a2 : Int) (a3 : Bool) (a4 : List Int) (a5 : Int) : Io.run tt hdoqTopics dr lpoqTopics iooqTopics Go.Proofs.Tryz.f59 (((), a0, (), ()), ((), a1, a2, a3, ()), (a4, a5, ()), ((), ()), ()) = bodyoqTopics a0 a1 a2 a3 a4 a5 := by kernel_rfl
theorem okoqTopics : HcOk prog 59 (ioHd iooqTopics FoqTopics) := by
  refine fn_sound (n := 400) hm (cs := csoqTopics) (.cons okeFail (.cons okeI32 (.cons okoqTopic .nil))) (lp := lpoqTopics) (fn := Go.Proofs.Tryz.f59) (by kernel_rfl) (by kernel_rfl) (by kernel_rfl) iooqTopics (.step (h0 := loHd looqTopics_5 FoqTopics_5) (by kernel_rfl) (loop_sound (n := 400) hm (cs := csoqTopics) (.cons okeFail (.cons okeI32 (.cons okoqTopic .nil))) (lp := lpoqTopics) (fn := Go.Proofs.Tryz.f59) (.done (by kernel_rfl)) looqTopics_5 FoqTopics_5 ?_) (.done (by kernel_rfl))) FoqTopics ?_
  · rintro ⟨⟨(xs : List toqTopic.den), (n : Int), (i : Int), ⟨⟩⟩, ⟨⟨(v : Int), (e : Int), (f : Bool), ⟨⟩⟩, ⟨(b : List Int), (m : Int), ⟨⟩⟩, ⟨⟨⟩, ⟨⟩⟩⟩⟩ y hw hy
    obtain ⟨hg, hy⟩ := Tr.guard hy
    simp only [Bool.and_eq_true, decide_eq_true_eq] at hg
    obtain ⟨rfl, rfl, rfl, h4⟩ := hg
    have h4 : b.length ≤ 130048 := h4
    have hl : xs.length ≤ maxLen := hw.1.1.1
    refine ⟨xs.length + 1, (loopoqTopics v hl (xs.length + 1) 0 (e, (f, b)) (by omega) (by omega) h4).trans ?_⟩
    rw [← hy]; rfl
  · rintro ⟨⟨⟨⟩, (xs : List toqTopic.den), ⟨⟩, ⟨⟩⟩, ⟨⟨⟩, (v : Int), (e : Int), (f : Bool), ⟨⟩⟩, ⟨(b : List Int), (m : Int), ⟨⟩⟩, ⟨⟨⟩, ⟨⟩⟩, ⟨⟩⟩ out hw ho
    obtain ⟨hg, ho⟩ := Tr.guard ho
    obtain ⟨rfl, hb⟩ := encOk_iff (v := v) (e := e) (f := f) hg
    cases ho
    refine (runoqTopics xs v e f b 130048).trans ?_
    unfold bodyoqTopics
    have g : (decide ((130048 : Int) = 130048) && decide (b.length ≤ 130048)) = true := by simpa using hb
    show _ = some (Out.ret ((), encOutC v (spItems (spoqTE v) xs (e, f, b))))
    unfold spItems
    by_cases h : 16 < (xs.length : Int)
    · rw [if_pos h]
      refine (bif_true (decide_eq_true h) _ _).trans ?_
      exact bif_true g _ _
    · rw [if_neg h]
      refine (bif_false (decide_eq_false h) _ _).trans ?_
      refine (bif_true g _ _).trans ?_
      have hw32 : IntKind.i32.wrap (xs.length : Int) = xs.length := wrap_id (by simp [inR, IntKind.min, IntKind.max, IntKind.signed, IntKind.bits]; omega)
      rw [hw32]
      have c1 : (decide ((0 : Int) = 0) && (decide ((xs.length : Int) = (xs.length : Int)) && (decide ((130048 : Int) = 130048) && decide ((spPutE xs.length 4 (e, f, b)).2.2.length ≤ 130048)))) = true := by
        simpa using spPutE_le (s := (e, f, b)) _ 4 hb
      have e1 : FoqTopics_5 ((xs, ((xs.length : Int), (0, ()))), ((v, ((spPutE xs.length 4 (e, f, b)).1, ((spPutE xs.length 4 (e, f, b)).2.1, ()))), (((spPutE xs.length 4 (e, f, b)).2.2, (130048, ())), ((), ())))) =
          .ite true (.ret (.ret ((), ((), encOutB v (xs.foldl (fun s x => spoqTE v x s) (spPutE xs.length 4 (e, f, b))))))) .no := congrArg (fun c => Tr.ite c _ _) c1
      rw [e1]
      rfl
def spoqLP (v : Int) (p : toqPart.den) (s : EnS) : EnS := spLacks v (p.2.2.2.1 == 0) 0 0 (spLacks v (p.2.1 == 0) 3 3 (s))
def spoqLPs (v : Int) (ps : List toqPart.den) (s : EnS) : EnS := ps.foldl (fun s p => spoqLP v p s) s
def spoqLR (v : Int) (ts : List toqTopic.den) (s : EnS) : EnS := ts.foldl (fun s t => spoqLPs v t.2.1 s) s
def spoqE (v : Int) (m : toqMsg.den) : EnS := spoqTsE v m.2.2.1 (spHasE v 2 3 m.2.1 1 (spPutE m.1 4 (spoqLR v m.2.2.1 (spLacks v (m.2.1 == 0) 2 3 (spNewE v, (false, ([] : List Int)))))))
abbrev iooqMsg : Io := ⟨[dI, .dat toqMsg true false], [], [], [dO, dI], none⟩
def FoqMsg (d : iooqMsg.In) : Tr iooqMsg.Res := .ret (.ret ((spDoneO (spoqE d.1.1 d.1.2.1), (spDoneE (spoqE d.1.1 d.1.2.1), ())), ()))
abbrev csoqMsg : List (Nat × Hc) := [(54, ioHd ioeNew FeNew), (55, ioHd ioeLacks FeLacks), (57, ioHd ioeHas FeHas), (56, ioHd ioeI32 FeI32), (58, ioHd ioeI8 FeI8), (59, ioHd iooqTopics FoqTopics), (65, ioHd ioeDone FeDone)]
def hdoqMsg : Hd := hdT csoqMsg
abbrev looqMsg_8 : Lo := ⟨⟨[.any, .any, .any, .one (.ptr 3 0), .any, .any, .one (.ptr 6 0), .any, .any, .any, .any, .any, .any, .any, .any, .any, .any, .any, .any, .one (.hol (.sl 111 toqTopic)), .one (.hol (.int IntKind.i64)), .one (.hol (.int IntKind.i64)), .any, .any, .any, .any, .one (.hol (.sl 113 toqPart)), .one (.hol (.int IntKind.i64)), .one (.hol (.int IntKind.i64)), .any, .any, .any, .any, .any, .any, .any, .any, .any, .any, .any, .any, .any, .any, .any, .any, .any, .any, .any, .any, .any, .any, .any, .any, .any, .any, .any, .any, .any, .any, .any, .any, .any, .any], [none, none, none, some [.hol (.int IntKind.i32), .hol (.int IntKind.i8), .hol (.sl 111 toqTopic)], none, none, some [.ptr 12 0], none, none, none, none, none, some [.ptr 13 0, .hol (.int IntKind.i64), .hol (.int IntKind.i64), .hol .bool], some [.onl 5 (Ty.int IntKind.u8) 6658, .hol (.int IntKind.i64)]]⟩, [(.exit 2, ⟨[.any, .any, .any, .one (.ptr 3 0), .any, .any, .one (.ptr 6 0), .any, .any, .any, .any, .any, .any, .any, .any, .any, .any, .any, .any, .one (.hol (.sl 111 toqTopic)), .one (.hol (.int IntKind.i64)), .one (.hol (.int IntKind.i64)), .any, .any, .any, .any, .any, .any, .any, .any, .any, .any, .any, .any, .any, .any, .any, .any, .any, .any, .any, .any, .any, .any, .any, .any, .any, .any, .any, .any, .any, .any, .any, .any, .any, .any, .any, .any, .any, .any, .any, .any, .any], [none, none, none, some [.hol (.int IntKind.i32), .hol (.int IntKind.i8), .hol (.sl 111 toqTopic)], none, none, some [.ptr 12 0], none, none, none, none, none, some [.ptr 13 0, .hol (.int IntKind.i64), .hol (.int IntKind.i64), .hol .bool], some [.onl 5 (Ty.int IntKind.u8) 6658, .hol (.int IntKind.i64)]]⟩)]⟩
-- FoqMsg_8 : looqMsg_8.st.den → Tr (DenX looqMsg_8.xs) | ((h15, (h16, (h17, (h18, (h19, (h20, ())))))), ((h21, (h22, (h23, ()))), ((), ((h24, (h25, (h26, ()))), ((h27, (h28, ())), ())))))
abbrev looqMsg_5 : Lo := ⟨⟨[.any, .any, .any, .one (.ptr 3 0), .any, .any, .one (.ptr 6 0), .any, .any, .any, .any, .any, .any, .any, .any, .any, .any, .any, .any, .one (.hol (.sl 111 toqTopic)), .one (.hol (.int IntKind.i64)), .one (.hol (.int IntKind.i64)), .any, .any, .any, .any, .any, .any, .any, .any, .any, .any, .any, .any, .any, .any, .any, .any, .any, .any, .any, .any, .any, .any, .any, .any, .any, .any, .any, .any, .any, .any, .any, .any, .any, .any, .any, .any, .any, .any, .any, .any, .any], [none, none, none, some [.hol (.int IntKind.i32), .hol (.int IntKind.i8), .hol (.sl 111 toqTopic)], none, none, some [.ptr 12 0], none, none, none, none, none, some [.ptr 13 0, .hol (.int IntKind.i64), .hol (.int IntKind.i64), .hol .bool], some [.onl 5 (Ty.int IntKind.u8) 6658, .hol (.int IntKind.i64)]]⟩, [(.exit 0, ⟨[.any, .any, .any, .one (.ptr 3 0), .any, .any, .one (.ptr 6 0), .any, .any, .any, .any, .any, .any, .any, .any, .any, .any, .any, .any, .any, .any, .any, .any, .any, .any, .any, .any, .any, .any, .any, .any, .any, .any, .any, .any, .any, .any, .any, .any, .any, .any, .any, .any, .any, .any, .any, .any, .any, .any, .any, .any, .any, .any, .any, .any, .any, .any, .any, .any, .any, .any, .any, .any], [none, none, none, some [.hol (.int IntKind.i32), .hol (.int IntKind.i8), .hol (.sl 111 toqTopic)], none, none, some [.ptr 12 0], none, none, none, none, none, some [.ptr 13 0, .hol (.int IntKind.i64), .hol (.int IntKind.i64), .hol .bool], some [.onl 5 (Ty.int IntKind.u8) 6658, .hol (.int IntKind.i64)]]⟩)]⟩
-- FoqMsg_5 : looqMsg_5.st.den → Tr (DenX looqMsg_5.xs) | ((h4, (h5, (h6, ()))), ((h7, (h8, (h9, ()))), ((), ((h10, (h11, (h12, ()))), ((h13, (h14, ())), ())))))
abbrev outBoq (re' : Int) (lv' : Int) (ts' : List toqTopic.den) (v : Int) (s : EnS) : (Int × (Int × (List toqTopic.den × Unit))) × (Unit × ((Int × (Int × (Bool × Unit))) × ((List Int × (Int × Unit)) × Unit))) := ((re', (lv', (ts', ()))), ((), ((v, (s.1, (s.2.1, ()))), ((s.2.2, (130048, ())), ()))))
def FoqMsg_8 (d : looqMsg_8.st.den) : Tr (DenX looqMsg_8.xs) :=
  .ite (decide (d.1.2.2.2.2.2.1 = 0) && (decide (d.1.2.2.2.2.1 = (d.1.2.2.2.1.length : Int)) && (decide (d.2.2.2.2.1.2.1 = 130048) && decide (d.2.2.2.2.1.1.length ≤ 130048)))) (.ret (.ret ((), ((d.1.1, (d.1.2.1, (d.1.2.2.1, ()))), outBoq d.2.1.1 d.2.1.2.1 d.2.1.2.2.1 d.2.2.2.1.1 (spoqLPs d.2.2.2.1.1 d.1.2.2.2.1 (d.2.2.2.1.2.1, (d.2.2.2.1.2.2.1, d.2.2.2.2.1.1))))))) .no
def FoqMsg_5 (d : looqMsg_5.st.den) : Tr (DenX looqMsg_5.xs) :=
  .ite (decide (d.1.2.2.1 = 0) && (decide (d.1.2.1 = (d.1.1.length : Int)) && (decide (d.2.2.2.2.1.2.1 = 130048) && decide (d.2.2.2.2.1.1.length ≤ 130048)))) (.ret (.ret ((), ((), outBoq d.2.1.1 d.2.1.2.1 d.2.1.2.2.1 d.2.2.2.1.1 (spoqLR d.2.2.2.1.1 d.1.1 (d.2.2.2.1.2.1, (d.2.2.2.1.2.2.1, d.2.2.2.2.1.1))))))) .no
def lpoqMsg : Lp := lpT [(5, loHd looqMsg_5 FoqMsg_5), (8, loHd looqMsg_8 FoqMsg_8)]
def stepoqMsg_8 {R : Type} (h15 : List toqTopic.den) (h16 : Int) (h17 : Int) (h18 : List toqPart.den) (h19 : Int) (h20 : Int) (h21 : Int) (h22 : Int) (h23 : List toqTopic.den) (h24 : Int) (h25 : Int) (h26 : Bool) (h27 : List Int) (h28 : Int) (next : List toqTopic.den → Int → Int → List toqPart.den → Int → Int → Int → Int → List toqTopic.den → Int → Int → Bool → List Int → Int → Option R) (out : DenX looqMsg_8.xs → Option R) : Option R := bif decide (h20 < h19) then bif decide (0 ≤ h20) && decide (h20 < (↑h18.length : Int)) then bif decide (h28 = 130048) && decide (h27.length ≤ 130048) then bif decide (130048 = 130048) && decide ((spLacks h24 ((h18.getD h20.toNat (0, 0, 0, 0, ())).snd.fst == 0) 3 3 (h25, h26, h27)).snd.snd.length ≤ 130048) then next (h15) (h16) (h17) (h18) (h19) (IntKind.i64.wrap (h20 + 1)) (h21) (h22) (h23) (h24) ((spLacks h24 ((h18.getD h20.toNat (0, 0, 0, 0, ())).snd.snd.snd.fst == 0) 0 0 (spLacks h24 ((h18.getD h20.toNat (0, 0, 0, 0, ())).snd.fst == 0) 3 3 (h25, h26, h27))).fst) ((spLacks h24 ((h18.getD h20.toNat (0, 0, 0, 0, ())).snd.snd.snd.fst == 0) 0 0 (spLacks h24 ((h18.getD h20.toNat (0, 0, 0, 0, ())).snd.fst == 0) 3 3 (h25, h26, h27))).snd.fst) ((spLacks h24 ((h18.getD h20.toNat (0, 0, 0, 0, ())).snd.snd.snd.fst == 0) 0 0 (spLacks h24 ((h18.getD h20.toNat (0, 0, 0, 0, ())).snd.fst == 0) 3 3 (h25, h26, h27))).snd.snd) (130048) else none else none else none else out (.ret ((), ((h15, (h16, (h17, ()))), ((h21, (h22, (h23, ()))), ((), ((h24, (h25, (h26, ()))), ((h27, (h28, ())), ())))))))
def itoqMsg_8 (n : Nat) (h15 : List toqTopic.den) (h16 : Int) (h17 : Int) (h18 : List toqPart.den) (h19 : Int) (h20 : Int) (h21 : Int) (h22 : Int) (h23 : List toqTopic.den) (h24 : Int) (h25 : Int) (h26 : Bool) (h27 : List Int) (h28 : Int) : Option (DenX looqMsg_8.xs) := lpN tt hdoqMsg dr lpoqMsg 0 Go.Proofs.Tryz.f16 (subL Go.Proofs.Tryz.f16 (topL Go.Proofs.Tryz.f16 0) 0) n (looqMsg_8.st.mk' ((h15, (h16, (h17, (h18, (h19, (h20, ())))))), ((h21, (h22, (h23, ()))), ((), ((h24, (h25, (h26, ()))), ((h27, (h28, ())), ())))))) (decX looqMsg_8.xs)
theorem sloqMsg_8 (n : Nat) (h15 : List toqTopic.den) (h16 : Int) (h17 : Int) (h18 : List toqPart.den) (h19 : Int) (h20 : Int) (h21 : Int) (h22 : Int) (h23 : List toqTopic.den) (h24 : Int) (h25 : Int) (h26 : Bool) (h27 : List Int) (h28 : Int) : itoqMsg_8 (n + 1) h15 h16 h17 h18 h19 h20 h21 h22 h23 h24 h25 h26 h27 h28 = stepoqMsg_8 h15 h16 h17 h18 h19 h20 h21 h22 h23 h24 h25 h26 h27 h28 (itoqMsg_8 n) some := by kernel_rfl
def stepoqMsg_5 {R : Type} (h4 : List toqTopic.den) (h5 : Int) (h6 : Int) (h7 : Int) (h8 : Int) (h9 : List toqTopic.den) (h10 : Int) (h11 : Int) (h12 : Bool) (h13 : List Int) (h14 : Int) (next : List toqTopic.den → Int → Int → Int → Int → List toqTopic.den → Int → Int → Bool → List Int → Int → Option R) (out : DenX looqMsg_5.xs → Option R) : Option R := bif decide (h6 < h5) then bif decide (0 ≤ h6) && decide (h6 < (↑h4.length : Int)) then (FoqMsg_8 ((h4, (h5, (h6, ((h4.getD h6.toNat ([], [], ())).snd.fst, ((↑(List.length (h4.getD h6.toNat ([], [], ())).snd.fst) : Int), (0, ())))))), ((h7, (h8, (h9, ()))), ((), ((h10, (h11, (h12, ()))), ((h13, (h14, ())), ())))))).run fun y => match y with | .ret ((), ((x54, x55, x56, ()), (x57, x58, x59, ()), (), (x60, x61, x62, ()), (x63, x64, ()), ())) => (next (x54) (x55) (IntKind.i64.wrap (x56 + 1)) (x57) (x58) (x59) (x60) (x61) (x62) (x63) (x64)) else none else out (.ret ((), ((), ((h7, (h8, (h9, ()))), ((), ((h10, (h11, (h12, ()))), ((h13, (h14, ())), ())))))))
def itoqMsg_5 (n : Nat) (h4 : List toqTopic.den) (h5 : Int) (h6 : Int) (h7 : Int) (h8 : Int) (h9 : List toqTopic.den) (h10 : Int) (h11 : Int) (h12 : Bool) (h13 : List Int) (h14 : Int) : Option (DenX looqMsg_5.xs) := lpN tt hdoqMsg dr lpoqMsg 0 Go.Proofs.Tryz.f16 (topL Go.Proofs.Tryz.f16 0) n (looqMsg_5.st.mk' ((h4, (h5, (h6, ()))), ((h7, (h8, (h9, ()))), ((), ((h10, (h11, (h12, ()))), ((h13, (h14, ())), ())))))) (decX looqMsg_5.xs)
theorem sloqMsg_5 (n : Nat) (h4 : List toqTopic.den) (h5 : Int) (h6 : Int) (h7 : Int) (h8 : Int) (h9 : List toqTopic.den) (h10 : Int) (h11 : Int) (h12 : Bool) (h13 : List Int) (h14 : Int) : itoqMsg_5 (n + 1) h4 h5 h6 h7 h8 h9 h10 h11 h12 h13 h14 = stepoqMsg_5 h4 h5 h6 h7 h8 h9 h10 h11 h12 h13 h14 (itoqMsg_5 n) some := by kernel_rfl
theorem spoqLP_le {s : EnS} (v : Int) (p : toqPart.den) (h : s.2.2.length ≤ 130048) : (spoqLP v p s).2.2.length ≤ 130048 := spLacks_le _ _ _ _ (spLacks_le _ _ _ _ h)
theorem spoqLPs_le {s : EnS} (v : Int) (ps : List toqPart.den) (h : s.2.2.length ≤ 130048) : (spoqLPs v ps s).2.2.length ≤ 130048 := foldl_le (fun x s => spoqLP_le v x) ps s h
theorem spoqLR_le {s : EnS} (v : Int) (ts : List toqTopic.den) (h : s.2.2.length ≤ 130048) : (spoqLR v ts s).2.2.length ≤ 130048 := foldl_le (one := fun (t : toqTopic.den) (s : EnS) => spoqLPs v t.2.1 s) (fun x s h => spoqLPs_le v x.2.1 h) ts s h
theorem loopoqMsg_8 (us : List toqTopic.den) (n i : Int) (re' : Int) (lv' : Int) (ts' : List toqTopic.den) (v : Int) {ps : List toqPart.den} (hl : ps.length ≤ maxLen) : ∀ (k j : Nat) (s : EnS), ps.length < j + k → j ≤ ps.length → s.2.2.length ≤ 130048 →
    itoqMsg_8 k us n i ps (ps.length : Int) j re' lv' ts' v s.1 s.2.1 s.2.2 130048 = some (.ret ((), ((us, (n, (i, ()))), outBoq re' lv' ts' v ((ps.drop j).foldl (fun s p => spoqLP v p s) s)))) := by
  intro k
  have hg : ∀ s : EnS, s.2.2.length ≤ 130048 → (decide ((130048 : Int) = 130048) && decide (s.2.2.length ≤ 130048)) = true := fun s h => by simpa using h
  induction k with
  | zero => intro j s h; omega
  | succ k ih =>
    intro j s h1 h2 q0
    rw [sloqMsg_8]
    unfold stepoqMsg_8
    by_cases hi : j < ps.length
    · refine (bif_true (decide_eq_true (show (j : Int) < (ps.length : Int) by omega)) _ _).trans ?_
      refine (bif_true (by simpa using hi) _ _).trans ?_
      simp only [Int.toNat_natCast, getD_lt hi, wrap_succ hi hl]
      refine (bif_true (hg _ q0) _ _).trans ?_
      have q1 := spLacks_le (s := s) v (ps[j].2.1 == 0) 3 3 q0
      refine (bif_true (hg _ q1) _ _).trans ?_
      have q2 := spLacks_le (s := spLacks v (ps[j].2.1 == 0) 3 3 s) v (ps[j].2.2.2.1 == 0) 0 0 q1
      rw [List.drop_eq_getElem_cons hi]
      exact ih (j + 1) (spoqLP v ps[j] s) (by omega) (by omega) (spoqLP_le _ _ q0)
    · refine (bif_false (by simp; omega) _ _).trans ?_
      rw [List.drop_of_length_le (by omega)]
      rfl
theorem loopoqMsg_5 {us : List toqTopic.den} (re' : Int) (lv' : Int) (ts' : List toqTopic.den) (v : Int) (hl : us.length ≤ maxLen) : ∀ (k j : Nat) (s : EnS), us.length < j + k → j ≤ us.length → s.2.2.length ≤ 130048 →
    itoqMsg_5 k us (us.length : Int) j re' lv' ts' v s.1 s.2.1 s.2.2 130048 = some (.ret ((), ((), outBoq re' lv' ts' v ((us.drop j).foldl (fun s t => spoqLPs v t.2.1 s) s)))) := by
  intro k
  induction k with
  | zero => intro j s h; omega
  | succ k ih =>
    intro j s h1 h2 h3
    rw [sloqMsg_5]
    unfold stepoqMsg_5
    by_cases hi : j < us.length
    · refine (bif_true (decide_eq_true (show (j : Int) < (us.length : Int) by omega)) _ _).trans ?_
      refine (bif_true (by simpa using hi) _ _).trans ?_
      simp only [Int.toNat_natCast, getD_lt hi]
      have c1 : (decide ((0 : Int) = 0) && (decide ((us[j].2.1.length : Int) = (us[j].2.1.length : Int)) && (decide ((130048 : Int) = 130048) && decide (s.2.2.length ≤ 130048)))) = true := by simpa using h3
      have e1 : FoqMsg_8 ((us, ((us.length : Int), ((j : Int), (us[j].2.1, ((us[j].2.1.length : Int), (0, ())))))), ((re', (lv', (ts', ()))), ((), ((v, (s.1, (s.2.1, ()))), ((s.2.2, (130048, ())), ()))))) =
          .ite true (.ret (.ret ((), ((us, ((us.length : Int), ((j : Int), ()))), outBoq re' lv' ts' v (spoqLPs v us[j].2.1 s))))) .no := congrArg (fun c => Tr.ite c _ _) c1
      rw [e1]
      show itoqMsg_5 k us (us.length : Int) (IntKind.i64.wrap ((j : Int) + 1)) re' lv' ts' v (spoqLPs v us[j].2.1 s).1 (spoqLPs v us[j].2.1 s).2.1 (spoqLPs v us[j].2.1 s).2.2 130048 = _
      rw [wrap_succ hi hl, List.drop_eq_getElem_cons hi]
      exact ih (j + 1) (spoqLPs v us[j].2.1 s) (by omega) (by omega) (spoqLPs_le _ _ h3)
    · refine (bif_false (by simp; omega) _ _).trans ?_
      rw [List.drop_of_length_le (by omega)]
      rfl
def bodyoqMsg (a0 : Int) (a1 : Int) (a2 : Int) (a3 : List toqTopic.den) : Option iooqMsg.Res := (FoqMsg_5 ((a3, ((↑a3.length : Int), (0, ()))), ((a1, (a2, (a3, ()))), ((), ((a0, ((spLacks a0 (a2 == 0) 2 3 (spNewE a0, false, [])).fst, ((spLacks a0 (a2 == 0) 2 3 (spNewE a0, false, [])).snd.fst, ()))), (((spLacks a0 (a2 == 0) 2 3 (spNewE a0, false, [])).snd.snd, (130048, ())), ())))))).run fun y => match y with | .ret ((), ((), (x84, x85, x86, ()), (), (x87, x88, x89, ()), (x90, x91, ()), ())) => (bif decide (x91 = 130048) && decide (x90.length ≤ 130048) then bif decide (130048 = 130048) && decide ((spPutE x84 4 (x88, x89, x90)).snd.snd.length ≤ 130048) then bif decide (2 ≤ x87) && decide (x87 ≤ 3) then bif decide (130048 = 130048) && decide ((spPutE x84 4 (x88, x89, x90)).snd.snd.length ≤ 130048) then bif decide (130048 = 130048) && decide ((spPutE x85 1 (spPutE x84 4 (x88, x89, x90))).snd.snd.length ≤ 130048) then bif decide (130048 = 130048) && decide ((spoqTsE x87 x86 (spPutE x85 1 (spPutE x84 4 (x88, x89, x90)))).snd.snd.length ≤ 130048) then some (Out.ret ((spDoneO (spoqTsE x87 x86 (spPutE x85 1 (spPutE x84 4 (x88, x89, x90)))), spDoneE (spoqTsE x87 x86 (spPutE x85 1 (spPutE x84 4 (x88, x89, x90)))), ()), ())) else none else none else none else bif decide (130048 = 130048) && decide ((spPutE x84 4 (x88, x89, x90)).snd.snd.length ≤ 130048) then bif decide (130048 = 130048) && decide ((spoqTsE x87 x86 (spPutE x84 4 (x88, x89, x90))).snd.snd.length ≤ 130048) then some (Out.ret ((spDoneO (spoqTsE x87 x86 (spPutE x84 4 (x88, x89, x90))), spDoneE (spoqTsE x87 x86 (spPutE x84 4 (x88, x89, x90))), ()), ())) else none else none else none else none)
theorem runoqMsg (a0 : Int) (a1 : Int) (a2 : Int) (a3 : List toqTopic.den) : Io.run tt hdoqMsg dr lpoqMsg iooqMsg Go.Proofs.Tryz.f16 ((a0, (a1, a2, a3, ()), ()), ()) = bodyoqMsg a0 a1 a2 a3 := by kernel_rfl
theorem okoqMsg : HcOk prog 16 (ioHd iooqMsg FoqMsg) := by
  refine fn_sound (n := 400) hm (cs := csoqMsg) (.cons okeNew (.cons okeLacks (.cons okeHas (.cons okeI32 (.cons okeI8 (.cons okoqTopics (.cons okeDone .nil))))))) (lp := lpoqMsg) (fn := Go.Proofs.Tryz.f16) (by kernel_rfl) (by kernel_rfl) (by kernel_rfl) iooqMsg (.step (h0 := loHd looqMsg_5 FoqMsg_5) (by kernel_rfl) (loop_sound (n := 400) hm (cs := csoqMsg) (.cons okeNew (.cons okeLacks (.cons okeHas (.cons okeI32 (.cons okeI8 (.cons okoqTopics (.cons okeDone .nil))))))) (lp := lpoqMsg) (fn := Go.Proofs.Tryz.f16) (.step (h0 := loHd looqMsg_8 FoqMsg_8) (by kernel_rfl) (loop_sound (n := 400) hm (cs := csoqMsg) (.cons okeNew (.cons okeLacks (.cons okeHas (.cons okeI32 (.cons okeI8 (.cons okoqTopics (.cons okeDone .nil))))))) (lp := lpoqMsg) (fn := Go.Proofs.Tryz.f16) (.done (by kernel_rfl)) looqMsg_8 FoqMsg_8 ?_) (.done (by kernel_rfl))) looqMsg_5 FoqMsg_5 ?_) (.done (by kernel_rfl))) FoqMsg ?_
  · rintro ⟨⟨(us : List toqTopic.den), (n : Int), (i : Int), (ps : List toqPart.den), (pn : Int), (pj : Int), ⟨⟩⟩, ⟨⟨(re' : Int), (lv' : Int), (ts' : List toqTopic.den), ⟨⟩⟩, ⟨⟩, ⟨(v : Int), (e : Int), (f : Bool), ⟨⟩⟩, ⟨(b : List Int), (m : Int), ⟨⟩⟩, ⟨⟩⟩⟩ y hw hy
    obtain ⟨hg, hy⟩ := Tr.guard hy
    simp only [Bool.and_eq_true, decide_eq_true_eq] at hg
    obtain ⟨rfl, rfl, rfl, h4⟩ := hg
    have h4 : b.length ≤ 130048 := h4
    have hl : ps.length ≤ maxLen := hw.1.2.2.2.1.1
    refine ⟨ps.length + 1, (loopoqMsg_8 us n i re' lv' ts' v hl (ps.length + 1) 0 (e, (f, b)) (by omega) (by omega) h4).trans ?_⟩
    rw [← hy]; rfl
  · rintro ⟨⟨(us : List toqTopic.den), (n : Int), (i : Int), ⟨⟩⟩, ⟨⟨(re' : Int), (lv' : Int), (ts' : List toqTopic.den), ⟨⟩⟩, ⟨⟩, ⟨(v : Int), (e : Int), (f : Bool), ⟨⟩⟩, ⟨(b : List Int), (m : Int), ⟨⟩⟩, ⟨⟩⟩⟩ y hw hy
    obtain ⟨hg, hy⟩ := Tr.guard hy
    simp only [Bool.and_eq_true, decide_eq_true_eq] at hg
    obtain ⟨rfl, rfl, rfl, h4⟩ := hg
    have h4 : b.length ≤ 130048 := h4
    have hl : us.length ≤ maxLen := hw.1.1.1
    refine ⟨us.length + 1, (loopoqMsg_5 re' lv' ts' v hl (us.length + 1) 0 (e, (f, b)) (by omega) (by omega) h4).trans ?_⟩
    rw [← hy]; rfl
  · rintro ⟨⟨(v : Int), ⟨(re : Int), (lv : Int), (ts : List toqTopic.den), ⟨⟩⟩, ⟨⟩⟩, ⟨⟩⟩ out hw ho
    cases ho
    refine (runoqMsg v re lv ts).trans ?_
    unfold bodyoqMsg
    have hg : ∀ s : EnS, s.2.2.length ≤ 130048 → (decide ((130048 : Int) = 130048) && decide (s.2.2.length ≤ 130048)) = true := fun s h => by simpa using h
    have q0 : (spNewE v, (false, ([] : List Int))).2.2.length ≤ 130048 := by simp
    have q1 := spLacks_le (s := (spNewE v, (false, ([] : List Int)))) v (lv == 0) 2 3 q0
    have c1 : (decide ((0 : Int) = 0) && (decide ((ts.length : Int) = (ts.length : Int)) && (decide ((130048 : Int) = 130048) && decide ((spLacks v (lv == 0) 2 3 (spNewE v, (false, ([] : List Int)))).2.2.length ≤ 130048)))) = true := by simpa using q1
    have e1 : FoqMsg_5 ((ts, ((ts.length : Int), (0, ()))), ((re, (lv, (ts, ()))), ((), ((v, ((spLacks v (lv == 0) 2 3 (spNewE v, (false, ([] : List Int)))).1, ((spLacks v (lv == 0) 2 3 (spNewE v, (false, ([] : List Int)))).2.1, ()))), (((spLacks v (lv == 0) 2 3 (spNewE v, (false, ([] : List Int)))).2.2, (130048, ())), ()))))) =
        .ite true (.ret (.ret ((), ((), outBoq re lv ts v (spoqLR v ts (spLacks v (lv == 0) 2 3 (spNewE v, (false, ([] : List Int))))))))) .no := congrArg (fun c => Tr.ite c _ _) c1
    rw [e1]
    have r0 := spoqLR_le v ts q1
    refine (bif_true (hg _ r0) _ _).trans ?_
    have l0_0 := spPutE_le re 4 r0
    refine (bif_true (hg _ l0_0) _ _).trans ?_
    by_cases h1_0 : 2 ≤ v ∧ v ≤ 3
    · refine (bif_true (by simpa using h1_0) _ _).trans ?_
      refine (bif_true (hg _ l0_0) _ _).trans ?_
      have l1_0 := spPutE_le lv 1 l0_0
      refine (bif_true (hg _ l1_0) _ _).trans ?_
      have l2_1 := spItems_le (fun x s => spoqTE_le v x) ts l1_0
      refine (bif_true (hg _ l2_1) _ _).trans ?_
      simp only [spoqE, spHasE_in h1_0]
    · refine (bif_false (Bool.eq_false_iff.2 fun h' => h1_0 (by simpa using h')) _ _).trans ?_
      refine (bif_true (hg _ l0_0) _ _).trans ?_
      have l2_1 := spItems_le (fun x s => spoqTE_le v x) ts l0_0
      refine (bif_true (hg _ l2_1) _ _).trans ?_
      simp only [spoqE, spHasE_out h1_0]
end
end Go.Proofs.YtjpeefegeobgfaaGreat.Sym
namespace Go.Proofs.YtjpeefegeobgfaaGreat.Sym
open Go
set_option linter.unusedSimpArgs false
set_option linter.unusedVariables false
noncomputable section
@[irreducible] noncomputable def spoqPD (v : Int) (b : List Int) (s : DeS) : toqPart.den × DeS :=
  (((spDn .i32 4 b s).1, ((spDHasN .i32 4 v 3 3 b (spDn .i32 4 b s).2).1, ((spDn .i64 8 b (spDHasN .i32 4 v 3 3 b (spDn .i32 4 b s).2).2).1, ((spDHasN .i32 4 v 0 0 b (spDn .i64 8 b (spDHasN .i32 4 v 3 3 b (spDn .i32 4 b s).2).2).2).1, ())))), (spDHasN .i32 4 v 0 0 b (spDn .i64 8 b (spDHasN .i32 4 v 3 3 b (spDn .i32 4 b s).2).2).2).2)
theorem spoqPD_ok {v : Int} {b : List Int} {s : DeS} (h : spDok b s.2 = true) : spDok b (spoqPD v b s).2.2 = true := by
  unfold spoqPD
  exact spDHasN_ok (spDn_ok _ _ (spDHasN_ok (spDn_ok _ _ (h))))
abbrev iodoqPart : Io := ⟨[.ptr 0 0], oDec1, [], [.dat toqPart true false], none⟩
def FdoqPart (d : iodoqPart.In) : Tr iodoqPart.Res := .ite (spDok d.2.2.2.1.1 d.2.2.2.1.2.1) (.ret (.ret (((spoqPD d.2.2.1.2.1 d.2.2.2.1.1 (decSt d.2.2)).1, ()), decOut1 d.2.2.1.2.1 d.2.2.2.1.1 (spoqPD d.2.2.1.2.1 d.2.2.2.1.1 (decSt d.2.2)).2))) .no
abbrev csdoqPart : List (Nat × Hc) := [(81, ioHd iodI32 FdI32), (89, ioHd iodI64 FdI64), (80, ioHd iodHas FdHas)]
def hddoqPart : Hd := hdT csdoqPart
def lpdoqPart : Lp := lpT []
def bodydoqPart (a0 : Int) (a1 : Int) (a2 : List Int) (a3 : Int) : Option iodoqPart.Res := bif spDok a2 a3 then bif spDHas a0 3 3 (spDn IntKind.i32 4 a2 (a1, a3)).snd.fst then bif spDok a2 (spDn IntKind.i32 4 a2 (a1, a3)).snd.snd then bif spDok a2 (spDn IntKind.i32 4 a2 (spDn IntKind.i32 4 a2 (a1, a3)).snd).snd.snd then bif spDHas a0 0 0 (spDn IntKind.i64 8 a2 (spDn IntKind.i32 4 a2 (spDn IntKind.i32 4 a2 (a1, a3)).snd).snd).snd.fst then bif spDok a2 (spDn IntKind.i64 8 a2 (spDn IntKind.i32 4 a2 (spDn IntKind.i32 4 a2 (a1, a3)).snd).snd).snd.snd then some (Out.ret ((((spDn IntKind.i32 4 a2 (a1, a3)).fst, (spDn IntKind.i32 4 a2 (spDn IntKind.i32 4 a2 (a1, a3)).snd).fst, (spDn IntKind.i64 8 a2 (spDn IntKind.i32 4 a2 (spDn IntKind.i32 4 a2 (a1, a3)).snd).snd).fst, (spDn IntKind.i32 4 a2 (spDn IntKind.i64 8 a2 (spDn IntKind.i32 4 a2 (spDn IntKind.i32 4 a2 (a1, a3)).snd).snd).snd).fst, ()), ()), ((), ()), ((), a0, (spDn IntKind.i32 4 a2 (spDn IntKind.i64 8 a2 (spDn IntKind.i32 4 a2 (spDn IntKind.i32 4 a2 (a1, a3)).snd).snd).snd).snd.fst, ()), (a2, (spDn IntKind.i32 4 a2 (spDn IntKind.i64 8 a2 (spDn IntKind.i32 4 a2 (spDn IntKind.i32 4 a2 (a1, a3)).snd).snd).snd).snd.snd, ()), ())) else none else some (Out.ret ((((spDn IntKind.i32 4 a2 (a1, a3)).fst, (spDn IntKind.i32 4 a2 (spDn IntKind.i32 4 a2 (a1, a3)).snd).fst, (spDn IntKind.i64 8 a2 (spDn IntKind.i32 4 a2 (spDn IntKind.i32 4 a2 (a1, a3)).snd).snd).fst, 0, ()), ()), ((), ()), ((), a0, (spDn IntKind.i64 8 a2 (spDn IntKind.i32 4 a2 (spDn IntKind.i32 4 a2 (a1, a3)).snd).snd).snd.fst, ()), (a2, (spDn IntKind.i64 8 a2 (spDn IntKind.i32 4 a2 (spDn IntKind.i32 4 a2 (a1, a3)).snd).snd).snd.snd, ()), ())) else none else none else bif spDok a2 (spDn IntKind.i32 4 a2 (a1, a3)).snd.snd then bif spDHas a0 0 0 (spDn IntKind.i64 8 a2 (spDn IntKind.i32 4 a2 (a1, a3)).snd).snd.fst then bif spDok a2 (spDn IntKind.i64 8 a2 (spDn IntKind.i32 4 a2 (a1, a3)).snd).snd.snd then some (Out.ret ((((spDn IntKind.i32 4 a2 (a1, a3)).fst, 0, (spDn IntKind.i64 8 a2 (spDn IntKind.i32 4 a2 (a1, a3)).snd).fst, (spDn IntKind.i32 4 a2 (spDn IntKind.i64 8 a2 (spDn IntKind.i32 4 a2 (a1, a3)).snd).snd).fst, ()), ()), ((), ()), ((), a0, (spDn IntKind.i32 4 a2 (spDn IntKind.i64 8 a2 (spDn IntKind.i32 4 a2 (a1, a3)).snd).snd).snd.fst, ()), (a2, (spDn IntKind.i32 4 a2 (spDn IntKind.i64 8 a2 (spDn IntKind.i32 4 a2 (a1, a3)).snd).snd).snd.snd, ()), ())) else none else some (Out.ret ((((spDn IntKind.i32 4 a2 (a1, a3)).fst, 0, (spDn IntKind.i64 8 a2 (spDn IntKind.i32 4 a2 (a1, a3)).snd).fst, 0, ()), ()), ((), ()), ((), a0, (spDn IntKind.i64 8 a2 (spDn IntKind.i32 4 a2 (a1, a3)).snd).snd.fst, ()), (a2, (spDn IntKind.i64 8 a2 (spDn IntKind.i32 4 a2 (a1, a3)).snd).snd.snd, ()), ())) else none else none
theorem rundoqPart (a0 : Int) (a1 : Int) (a2 : List Int) (a3 : Int) : Io.run tt hddoqPart dr lpdoqPart iodoqPart Go.Proofs.Tryz.f95 (((), ()), ((), ()), ((), a0, a1, ()), (a2, a3, ()), ()) = bodydoqPart a0 a1 a2 a3 := by kernel_rfl
theorem okdoqPart : HcOk prog 95 (ioHd iodoqPart FdoqPart) := by
  refine fn_sound (n := 400) hm (cs := csdoqPart) (.cons okdI32 (.cons okdI64 (.cons okdHas .nil))) (lp := lpdoqPart) (fn := Go.Proofs.Tryz.f95) (by kernel_rfl) (by kernel_rfl) (by kernel_rfl) iodoqPart (.done (by kernel_rfl)) FdoqPart ?_
  rintro ⟨⟨⟨⟩, ⟨⟩⟩, ⟨⟨⟩, ⟨⟩⟩, ⟨⟨⟩, (v : Int), (e : Int), ⟨⟩⟩, ⟨(b : List Int), (p : Int), ⟨⟩⟩, ⟨⟩⟩ out hw ho
  obtain ⟨hg, ho⟩ := Tr.guard ho
  have hg : spDok b p = true := hg
  cases ho
  refine (rundoqPart v e b p).trans ?_
  unfold bodydoqPart
  show _ = some (Out.ret (((spoqPD v b (e, p)).1, ()), decOut1 v b (spoqPD v b (e, p)).2))
  unfold spoqPD
  have hg : spDok b ((e, p) : DeS).2 = true := hg
  refine (bif_true hg _ _).trans ?_
  have g0 : spDok b (spDn .i32 4 b ((e, p) : DeS)).2.2 = true := spDn_ok .i32 4 (s := ((e, p) : DeS)) hg
  show (bif spDHas v 3 3 (spDn .i32 4 b ((e, p) : DeS)).2.1 then _ else _) = _
  cases h1 : spDHas v 3 3 (spDn .i32 4 b ((e, p) : DeS)).2.1
  · have e1 : spDHasN .i32 4 v 3 3 b (spDn .i32 4 b ((e, p) : DeS)).2 = (0, (spDn .i32 4 b ((e, p) : DeS)).2) := by unfold spDHasN; rw [if_neg (by rw [h1]; decide)]
    rw [e1]
    refine (bif_true g0 _ _).trans ?_
    have gf2 : spDok b (spDn .i64 8 b (spDn .i32 4 b ((e, p) : DeS)).2).2.2 = true := spDn_ok .i64 8 (s := (spDn .i32 4 b ((e, p) : DeS)).2) g0
    show (bif spDHas v 0 0 (spDn .i64 8 b (spDn .i32 4 b ((e, p) : DeS)).2).2.1 then _ else _) = _
    cases hf3 : spDHas v 0 0 (spDn .i64 8 b (spDn .i32 4 b ((e, p) : DeS)).2).2.1
    · have ef3 : spDHasN .i32 4 v 0 0 b (spDn .i64 8 b (spDn .i32 4 b ((e, p) : DeS)).2).2 = (0, (spDn .i64 8 b (spDn .i32 4 b ((e, p) : DeS)).2).2) := by unfold spDHasN; rw [if_neg (by rw [hf3]; decide)]
      rw [ef3]
      rfl
    · have ef3 : spDHasN .i32 4 v 0 0 b (spDn .i64 8 b (spDn .i32 4 b ((e, p) : DeS)).2).2 = spDn .i32 4 b (spDn .i64 8 b (spDn .i32 4 b ((e, p) : DeS)).2).2 := by unfold spDHasN; rw [if_pos hf3]
      rw [ef3]
      refine (bif_true gf2 _ _).trans ?_
      have gf3 : spDok b (spDn .i32 4 b (spDn .i64 8 b (spDn .i32 4 b ((e, p) : DeS)).2).2).2.2 = true := spDn_ok .i32 4 (s := (spDn .i64 8 b (spDn .i32 4 b ((e, p) : DeS)).2).2) gf2
      rfl
  · have e1 : spDHasN .i32 4 v 3 3 b (spDn .i32 4 b ((e, p) : DeS)).2 = spDn .i32 4 b (spDn .i32 4 b ((e, p) : DeS)).2 := by unfold spDHasN; rw [if_pos h1]
    rw [e1]
    refine (bif_true g0 _ _).trans ?_
    have g1 : spDok b (spDn .i32 4 b (spDn .i32 4 b ((e, p) : DeS)).2).2.2 = true := spDn_ok .i32 4 (s := (spDn .i32 4 b ((e, p) : DeS)).2) g0
    refine (bif_true g1 _ _).trans ?_
    have gt2 : spDok b (spDn .i64 8 b (spDn .i32 4 b (spDn .i32 4 b ((e, p) : DeS)).2).2).2.2 = true := spDn_ok .i64 8 (s := (spDn .i32 4 b (spDn .i32 4 b ((e, p) : DeS)).2).2) g1
    show (bif spDHas v 0 0 (spDn .i64 8 b (spDn .i32 4 b (spDn .i32 4 b ((e, p) : DeS)).2).2).2.1 then _ else _) = _
    cases ht3 : spDHas v 0 0 (spDn .i64 8 b (spDn .i32 4 b (spDn .i32 4 b ((e, p) : DeS)).2).2).2.1
    · have et3 : spDHasN .i32 4 v 0 0 b (spDn .i64 8 b (spDn .i32 4 b (spDn .i32 4 b ((e, p) : DeS)).2).2).2 = (0, (spDn .i64 8 b (spDn .i32 4 b (spDn .i32 4 b ((e, p) : DeS)).2).2).2) := by unfold spDHasN; rw [if_neg (by rw [ht3]; decide)]
      rw [et3]
      rfl
    · have et3 : spDHasN .i32 4 v 0 0 b (spDn .i64 8 b (spDn .i32 4 b (spDn .i32 4 b ((e, p) : DeS)).2).2).2 = spDn .i32 4 b (spDn .i64 8 b (spDn .i32 4 b (spDn .i32 4 b ((e, p) : DeS)).2).2).2 := by unfold spDHasN; rw [if_pos ht3]
      rw [et3]
      refine (bif_true gt2 _ _).trans ?_
      have gt3 : spDok b (spDn .i32 4 b (spDn .i64 8 b (spDn .i32 4 b (spDn .i32 4 b ((e, p) : DeS)).2).2).2).2.2 = true := spDn_ok .i32 4 (s := (spDn .i64 8 b (spDn .i32 4 b (spDn .i32 4 b ((e, p) : DeS)).2).2).2) gt2
      rfl
@[irreducible] noncomputable def spoqPsD (v : Int) (b : List Int) (s : DeS) : List toqPart.den × DeS := spList (spoqPD v b) b s
theorem spoqPsD_ok {v : Int} {b : List Int} {s : DeS} (h : spDok b s.2 = true) : spDok b (spoqPsD v b s).2.2 = true := by
  unfold spoqPsD
  exact spList_ok (fun s h => spoqPD_ok h) h
abbrev iodoqParts : Io := ⟨[.ptr 0 0, .fnc 95 false [2]], oDecC, [], [.dat (.sl 113 toqPart) false false], none⟩
def FdoqParts (d : iodoqParts.In) : Tr iodoqParts.Res := .ite (spDok d.2.2.1.1 d.2.2.1.2.1) (.ret (.ret (((spoqPsD d.2.1.2.1 d.2.2.1.1 (decStC d.2)).1, ()), decOutC d.2.1.2.1 d.2.2.1.1 (spoqPsD d.2.1.2.1 d.2.2.1.1 (decStC d.2)).2))) .no
abbrev csdoqParts : List (Nat × Hc) := [(81, ioHd iodI32 FdI32), (95, ioHd iodoqPart FdoqPart)]
def hddoqParts : Hd := hdT csdoqParts
abbrev lodoqParts_10 : Lo := ⟨⟨[.one (.ptr 0 0), .one (.fnp 95 false [2]), .any, .any, .any, .one (.hol (.int IntKind.i32)), .one (.onl 113 toqPart 19), .one (.hol (.int IntKind.i32)), .any, .any, .any, .any, .any, .any, .any, .any, .any, .any, .any, .any, .any, .any, .any, .any, .any, .any, .any, .any, .any, .any, .any, .any, .any, .any, .any, .any, .any, .any, .any, .any, .any, .any, .any, .any, .any, .any], [some [.ptr 1 0, .hol (.int IntKind.i64), .hol (.int IntKind.i64)], some [.hol (.sl 5 (Ty.int IntKind.u8)), .hol (.int IntKind.i64)], some [.ptr 0 0]]⟩, [(.exit 1, ⟨[.any, .any, .any, .any, .any, .any, .one (.onl 113 toqPart 19), .any, .any, .any, .any, .any, .any, .any, .any, .any, .any, .any, .any, .any, .any, .any, .any, .any, .any, .any, .any, .any, .any, .any, .any, .any, .any, .any, .any, .any, .any, .any, .any, .any, .any, .any, .any, .any, .any, .any], [some [.ptr 1 0, .hol (.int IntKind.i64), .hol (.int IntKind.i64)], some [.hol (.sl 5 (Ty.int IntKind.u8)), .hol (.int IntKind.i64)], some [.ptr 0 0]]⟩)]⟩
-- FdoqParts_10 : lodoqParts_10.st.den → Tr (DenX lodoqParts_10.xs) | ((h4, (h5, (h6, ()))), ((h7, (h8, ())), ((h9, (h10, ())), ((), ()))))
def FdoqParts_10 (d : lodoqParts_10.st.den) : Tr (DenX lodoqParts_10.xs) :=
  .ite (decide (d.1.2.2.1 = 0) && (decide (d.1.2.1.length = 0) && (spDok d.2.2.1.1 d.2.2.1.2.1 && (decide (d.1.1 ≤ (16 : Int)) || decide (d.2.1.2.1 ≠ 0))))) (.ret (.ret ((), (((spRep (spoqPD d.2.1.1 d.2.2.1.1) d.1.1.toNat (d.2.1.2.1, d.2.2.1.2.1)).1, ()), decOutB d.2.1.1 d.2.2.1.1 (spRep (spoqPD d.2.1.1 d.2.2.1.1) d.1.1.toNat (d.2.1.2.1, d.2.2.1.2.1)).2)))) .no
def lpdoqParts : Lp := lpT [(10, loHd lodoqParts_10 FdoqParts_10)]
def stepdoqParts_10 {R : Type} (h4 : Int) (h5 : List toqPart.den) (h6 : Int) (h7 : Int) (h8 : Int) (h9 : List Int) (h10 : Int) (next : Int → List toqPart.den → Int → Int → Int → List Int → Int → Option R) (out : DenX lodoqParts_10.xs → Option R) : Option R := bif decide (h6 < h4) then bif h8 == 0 then bif spDok h9 h10 then bif decide (h5.length + 1 ≤ 4294967296) then next (h4) (h5 ++ [(spoqPD h7 h9 (h8, h10)).fst]) (IntKind.i32.wrap (h6 + 1)) (h7) ((spoqPD h7 h9 (h8, h10)).snd.fst) (h9) ((spoqPD h7 h9 (h8, h10)).snd.snd) else none else none else out (.ret ((), ((h5, ()), ((h7, (h8, ())), ((h9, (h10, ())), ((), ())))))) else out (.ret ((), ((h5, ()), ((h7, (h8, ())), ((h9, (h10, ())), ((), ()))))))
def itdoqParts_10 (n : Nat) (h4 : Int) (h5 : List toqPart.den) (h6 : Int) (h7 : Int) (h8 : Int) (h9 : List Int) (h10 : Int) : Option (DenX lodoqParts_10.xs) := lpN tt hddoqParts dr lpdoqParts 3 Go.Proofs.Tryz.f94 (topL Go.Proofs.Tryz.f94 0) n (lodoqParts_10.st.mk' ((h4, (h5, (h6, ()))), ((h7, (h8, ())), ((h9, (h10, ())), ((), ()))))) (decX lodoqParts_10.xs)
theorem sldoqParts_10 (n : Nat) (h4 : Int) (h5 : List toqPart.den) (h6 : Int) (h7 : Int) (h8 : Int) (h9 : List Int) (h10 : Int) : itdoqParts_10 (n + 1) h4 h5 h6 h7 h8 h9 h10 = stepdoqParts_10 h4 h5 h6 h7 h8 h9 h10 (itdoqParts_10 n) some := by kernel_rfl
theorem loopdoqParts (n v : Int) (b : List Int) : ∀ (k j : Nat) (xs : List toqPart.den) (s : DeS), n.toNat < j + k → j ≤ n.toNat → xs.length = j → spDok b s.2 = true → (s.1 = 0 → n ≤ 16) →
    itdoqParts_10 k n xs j v s.1 b s.2 = some (.ret ((), ((xs ++ (spRep (spoqPD v b) (n.toNat - j) s).1, ()), decOutB v b (spRep (spoqPD v b) (n.toNat - j) s).2))) := by
  intro k
  induction k with
  | zero => intro j xs s h; omega
  | succ k ih =>
    intro j xs s h1 h2 h3 h4 h5
    rw [sldoqParts_10]
    unfold stepdoqParts_10
    by_cases hj : (j : Int) < n
    · refine (bif_true (by simpa using hj) _ _).trans ?_
      obtain ⟨m, hm⟩ : ∃ m, n.toNat - j = m + 1 := ⟨n.toNat - j - 1, by omega⟩
      rw [hm]
      by_cases he : s.1 = 0
      · refine (bif_true (by simpa using he) _ _).trans ?_
        have hn := h5 he
        refine (bif_true h4 _ _).trans ?_
        refine (bif_true (decide_eq_true (show xs.length + 1 ≤ 4294967296 by omega)) _ _).trans ?_
        have hw : IntKind.i32.wrap ((j : Int) + 1) = ((j + 1 : Nat) : Int) := wrap_id (by simp [inR, IntKind.min, IntKind.max, IntKind.signed, IntKind.bits]; omega)
        rw [hw]
        refine (ih (j + 1) (xs ++ [(spoqPD v b s).1]) (spoqPD v b s).2 (by omega) (by omega) (by simp [h3]) (spoqPD_ok h4) (fun _ => hn)).trans ?_
        rw [show n.toNat - (j + 1) = m by omega, spRep, if_pos he]
        simp
      · refine (bif_false (by simpa using he) _ _).trans ?_
        rw [spRep, if_neg he]
        simp
    · refine (bif_false (by simpa using hj) _ _).trans ?_
      rw [show n.toNat - j = 0 by omega, spRep]
      simp
def bodydoqParts (a0 : Int) (a1 : Int) (a2 : List Int) (a3 : Int) : Option iodoqParts.Res := bif spDok a2 a3 then bif (spDn IntKind.i32 4 a2 (a1, a3)).snd.fst != 0 then (FdoqParts_10 (((spDn IntKind.i32 4 a2 (a1, a3)).fst, ([], (0, ()))), ((a0, ((spDn IntKind.i32 4 a2 (a1, a3)).snd.fst, ())), ((a2, ((spDn IntKind.i32 4 a2 (a1, a3)).snd.snd, ())), ((), ()))))).run fun y => match y with | .ret ((), ((x28, ()), (x29, x30, ()), (x31, x32, ()), (), ())) => (some (Out.ret ((x28, ()), ((), x29, x30, ()), (x31, x32, ()), ((), ()), ()))) else bif decide ((spDn IntKind.i32 4 a2 (a1, a3)).fst < 0) then (FdoqParts_10 (((spDn IntKind.i32 4 a2 (a1, a3)).fst, ([], (0, ()))), ((a0, (5, ())), ((a2, ((spDn IntKind.i32 4 a2 (a1, a3)).snd.snd, ())), ((), ()))))).run fun y => match y with | .ret ((), ((x40, ()), (x41, x42, ()), (x43, x44, ()), (), ())) => (some (Out.ret ((x40, ()), ((), x41, x42, ()), (x43, x44, ()), ((), ()), ()))) else bif decide (16 < (spDn IntKind.i32 4 a2 (a1, a3)).fst) then (FdoqParts_10 (((spDn IntKind.i32 4 a2 (a1, a3)).fst, ([], (0, ()))), ((a0, (9, ())), ((a2, ((spDn IntKind.i32 4 a2 (a1, a3)).snd.snd, ())), ((), ()))))).run fun y => match y with | .ret ((), ((x52, ()), (x53, x54, ()), (x55, x56, ()), (), ())) => (some (Out.ret ((x52, ()), ((), x53, x54, ()), (x55, x56, ()), ((), ()), ()))) else (FdoqParts_10 (((spDn IntKind.i32 4 a2 (a1, a3)).fst, ([], (0, ()))), ((a0, ((spDn IntKind.i32 4 a2 (a1, a3)).snd.fst, ())), ((a2, ((spDn IntKind.i32 4 a2 (a1, a3)).snd.snd, ())), ((), ()))))).run fun y => match y with | .ret ((), ((x64, ()), (x65, x66, ()), (x67, x68, ()), (), ())) => (some (Out.ret ((x64, ()), ((), x65, x66, ()), (x67, x68, ()), ((), ()), ()))) else none
theorem rundoqParts (a0 : Int) (a1 : Int) (a2 : List Int) (a3 : Int) : Io.run tt hddoqParts dr lpdoqParts iodoqParts Go.Proofs.Tryz.f94 (((), (), ()), ((), a0, a1, ()), (a2, a3, ()), ((), ()), ()) = bodydoqParts a0 a1 a2 a3 := by kernel_rfl
theorem okdoqParts : HcOk prog 94 (ioHd iodoqParts FdoqParts) := by
  refine fn_sound (n := 400) hm (cs := csdoqParts) (.cons okdI32 (.cons okdoqPart .nil)) (lp := lpdoqParts) (fn := Go.Proofs.Tryz.f94) (by kernel_rfl) (by kernel_rfl) (by kernel_rfl) iodoqParts (.step (h0 := loHd lodoqParts_10 FdoqParts_10) (by kernel_rfl) (loop_sound (n := 400) hm (cs := csdoqParts) (.cons okdI32 (.cons okdoqPart .nil)) (lp := lpdoqParts) (fn := Go.Proofs.Tryz.f94) (.done (by kernel_rfl)) lodoqParts_10 FdoqParts_10 ?_) (.done (by kernel_rfl))) FdoqParts ?_
  · rintro ⟨⟨(n : Int), (xs : List toqPart.den), (i : Int), ⟨⟩⟩, ⟨⟨(v : Int), (e : Int), ⟨⟩⟩, ⟨(b : List Int), (p : Int), ⟨⟩⟩, ⟨⟨⟩, ⟨⟩⟩⟩⟩ y hw hy
    obtain ⟨hg, hy⟩ := Tr.guard hy
    simp only [Bool.and_eq_true, decide_eq_true_eq, Bool.or_eq_true] at hg
    obtain ⟨h1, h2, h3, h4⟩ := hg
    have h1 : i = 0 := h1
    have h2 : xs = [] := List.eq_nil_of_length_eq_zero h2
    have h3 : spDok b p = true := h3
    have h4 : n ≤ 16 ∨ e ≠ 0 := h4
    subst h1
    subst h2
    refine ⟨n.toNat + 1, (loopdoqParts n v b (n.toNat + 1) 0 [] (e, p) (by omega) (by omega) rfl h3 (fun he => h4.resolve_right (fun h => h he))).trans ?_⟩
    rw [← hy]; rfl
  · rintro ⟨⟨⟨⟩, ⟨⟩, ⟨⟩⟩, ⟨⟨⟩, (v : Int), (e : Int), ⟨⟩⟩, ⟨(b : List Int), (p : Int), ⟨⟩⟩, ⟨⟨⟩, ⟨⟩⟩, ⟨⟩⟩ out hw ho
    obtain ⟨hg, ho⟩ := Tr.guard ho
    have hg : spDok b p = true := hg
    cases ho
    refine (rundoqParts v e b p).trans ?_
    unfold bodydoqParts
    show _ = some (Out.ret (((spoqPsD v b (e, p)).1, ()), decOutC v b (spoqPsD v b (e, p)).2))
    unfold spoqPsD spList
    refine (bif_true hg _ _).trans ?_
    have hr : spDok b (spDn .i32 4 b (e, p)).2.2 = true := spDn_ok .i32 4 (s := (e, p)) hg
    generalize spDn .i32 4 b (e, p) = r at hr ⊢
    obtain ⟨n, e1, q⟩ := r
    have hr : spDok b q = true := hr
    have key : ∀ e' : Int, (e' = 0 → n ≤ 16) → FdoqParts_10 ((n, ([], (0, ()))), ((v, (e', ())), ((b, (q, ())), ((), ())))) = .ite true (.ret (.ret ((), (((spRep (spoqPD v b) n.toNat (e', q)).1, ()), decOutB v b (spRep (spoqPD v b) n.toNat (e', q)).2)))) .no := by
      intro e' he
      refine congrArg (fun c => Tr.ite c _ _) ?_
      show (decide ((0 : Int) = 0) && (decide (([] : List toqPart.den).length = 0) && (spDok b q && (decide (n ≤ 16) || decide (e' ≠ 0))))) = true
      rw [hr]
      by_cases h : e' = 0
      · simp [he h]
      · simp [h]
    unfold spLen
    show (bif e1 != 0 then _ else _) = _
    by_cases h1 : e1 = 0
    · refine (bif_false (by simpa using h1) _ _).trans ?_
      show (bif decide (n < 0) then _ else _) = _
      rw [if_pos h1]
      by_cases h2 : n < 0
      · refine (bif_true (by simpa using h2) _ _).trans ?_
        show (FdoqParts_10 ((n, ([], (0, ()))), ((v, (5, ())), ((b, (q, ())), ((), ()))))).run _ = _
        rw [key 5 (by omega), if_pos h2]
        rfl
      · refine (bif_false (by simpa using h2) _ _).trans ?_
        show (bif decide (16 < n) then _ else _) = _
        rw [if_neg h2]
        by_cases h3 : 16 < n
        · refine (bif_true (by simpa using h3) _ _).trans ?_
          show (FdoqParts_10 ((n, ([], (0, ()))), ((v, (9, ())), ((b, (q, ())), ((), ()))))).run _ = _
          rw [key 9 (by omega), if_pos h3]
          rfl
        · refine (bif_false (by simpa using h3) _ _).trans ?_
          show (FdoqParts_10 ((n, ([], (0, ()))), ((v, (e1, ())), ((b, (q, ())), ((), ()))))).run _ = _
          rw [key e1 (by omega), if_neg h3]
          rfl
    · refine (bif_true (by simpa using h1) _ _).trans ?_
      show (FdoqParts_10 ((n, ([], (0, ()))), ((v, (e1, ())), ((b, (q, ())), ((), ()))))).run _ = _
      rw [key e1 (fun h => absurd h h1), if_neg h1]
      rfl
@[irreducible] noncomputable def spoqTD (v : Int) (b : List Int) (s : DeS) : toqTopic.den × DeS := (((spDStr b s).1, ((spoqPsD v b (spDStr b s).2).1, ())), (spoqPsD v b (spDStr b s).2).2)
theorem spoqTD_ok {v : Int} {b : List Int} {s : DeS} (h : spDok b s.2 = true) : spDok b (spoqTD v b s).2.2 = true := by
  unfold spoqTD
  exact spoqPsD_ok (spDStr_ok h)
abbrev iodoqTopic : Io := ⟨[.ptr 0 0], oDec1, [], [.dat toqTopic true false], none⟩
def FdoqTopic (d : iodoqTopic.In) : Tr iodoqTopic.Res := .ite (spDok d.2.2.2.1.1 d.2.2.2.1.2.1) (.ret (.ret (((spoqTD d.2.2.1.2.1 d.2.2.2.1.1 (decSt d.2.2)).1, ()), decOut1 d.2.2.1.2.1 d.2.2.2.1.1 (spoqTD d.2.2.1.2.1 d.2.2.2.1.1 (decSt d.2.2)).2))) .no
abbrev csdoqTopic : List (Nat × Hc) := [(84, ioHd iodStr FdStr), (94, ioHd iodoqParts FdoqParts)]
def hddoqTopic : Hd := hdT csdoqTopic
def lpdoqTopic : Lp := lpT []
def bodydoqTopic (a0 : Int) (a1 : Int) (a2 : List Int) (a3 : Int) : Option iodoqTopic.Res := bif spDok a2 a3 then bif spDok a2 (spDStr a2 (a1, a3)).snd.snd then some (Out.ret ((((spDStr a2 (a1, a3)).fst, (spoqPsD a0 a2 (spDStr a2 (a1, a3)).snd).fst, ()), ()), ((), ()), ((), a0, (spoqPsD a0 a2 (spDStr a2 (a1, a3)).snd).snd.fst, ()), (a2, (spoqPsD a0 a2 (spDStr a2 (a1, a3)).snd).snd.snd, ()), ())) else none else none
theorem rundoqTopic (a0 : Int) (a1 : Int) (a2 : List Int) (a3 : Int) : Io.run tt hddoqTopic dr lpdoqTopic iodoqTopic Go.Proofs.Tryz.f93 (((), ()), ((), ()), ((), a0, a1, ()), (a2, a3, ()), ()) = bodydoqTopic a0 a1 a2 a3 := by kernel_rfl
theorem okdoqTopic : HcOk prog 93 (ioHd iodoqTopic FdoqTopic) := by
  refine fn_sound (n := 400) hm (cs := csdoqTopic) (.cons okdStr (.cons okdoqParts .nil)) (lp := lpdoqTopic) (fn := Go.Proofs.Tryz.f93) (by kernel_rfl) (by kernel_rfl) (by kernel_rfl) iodoqTopic (.done (by kernel_rfl)) FdoqTopic ?_
  rintro ⟨⟨⟨⟩, ⟨⟩⟩, ⟨⟨⟩, ⟨⟩⟩, ⟨⟨⟩, (v : Int), (e : Int), ⟨⟩⟩, ⟨(b : List Int), (p : Int), ⟨⟩⟩, ⟨⟩⟩ out hw ho
  obtain ⟨hg, ho⟩ := Tr.guard ho
  have hg : spDok b p = true := hg
  cases ho
  refine (rundoqTopic v e b p).trans ?_
  unfold bodydoqTopic
  show _ = some (Out.ret (((spoqTD v b (e, p)).1, ()), decOut1 v b (spoqTD v b (e, p)).2))
  unfold spoqTD
  refine (bif_true hg _ _).trans ?_
  exact bif_true (spDStr_ok (s := (e, p)) hg) _ _
@[irreducible] noncomputable def spoqTsD (v : Int) (b : List Int) (s : DeS) : List toqTopic.den × DeS := spList (spoqTD v b) b s
theorem spoqTsD_ok {v : Int} {b : List Int} {s : DeS} (h : spDok b s.2 = true) : spDok b (spoqTsD v b s).2.2 = true := by
  unfold spoqTsD
  exact spList_ok (fun s h => spoqTD_ok h) h
abbrev iodoqTopics : Io := ⟨[.ptr 0 0, .fnc 93 false [2]], oDecC, [], [.dat (.sl 111 toqTopic) false false], none⟩
def FdoqTopics (d : iodoqTopics.In) : Tr iodoqTopics.Res := .ite (spDok d.2.2.1.1 d.2.2.1.2.1) (.ret (.ret (((spoqTsD d.2.1.2.1 d.2.2.1.1 (decStC d.2)).1, ()), decOutC d.2.1.2.1 d.2.2.1.1 (spoqTsD d.2.1.2.1 d.2.2.1.1 (decStC d.2)).2))) .no
abbrev csdoqTopics : List (Nat × Hc) := [(81, ioHd iodI32 FdI32), (93, ioHd iodoqTopic FdoqTopic)]
def hddoqTopics : Hd := hdT csdoqTopics
abbrev lodoqTopics_10 : Lo := ⟨⟨[.one (.ptr 0 0), .one (.fnp 93 false [2]), .any, .any, .any, .one (.hol (.int IntKind.i32)), .one (.onl 111 toqTopic 19), .one (.hol (.int IntKind.i32)), .any, .any, .any, .any, .any, .any, .any, .any, .any, .any, .any, .any, .any, .any, .any, .any, .any, .any, .any, .any, .any, .any, .any, .any, .any, .any, .any, .any, .any, .any, .any, .any, .any, .any, .any, .any, .any, .any], [some [.ptr 1 0, .hol (.int IntKind.i64), .hol (.int IntKind.i64)], some [.hol (.sl 5 (Ty.int IntKind.u8)), .hol (.int IntKind.i64)], some [.ptr 0 0]]⟩, [(.exit 1, ⟨[.any, .any, .any, .any, .any, .any, .one (.onl 111 toqTopic 19), .any, .any, .any, .any, .any, .any, .any, .any, .any, .any, .any, .any, .any, .any, .any, .any, .any, .any, .any, .any, .any, .any, .any, .any, .any, .any, .any, .any, .any, .any, .any, .any, .any, .any, .any, .any, .any, .any, .any], [some [.ptr 1 0, .hol (.int IntKind.i64), .hol (.int IntKind.i64)], some [.hol (.sl 5 (Ty.int IntKind.u8)), .hol (.int IntKind.i64)], some [.ptr 0 0]]⟩)]⟩
-- FdoqTopics_10 : lodoqTopics_10.st.den → Tr (DenX lodoqTopics_10.xs) | ((h4, (h5, (h6, ()))), ((h7, (h8, ())), ((h9, (h10, ())), ((), ()))))
def FdoqTopics_10 (d : lodoqTopics_10.st.den) : Tr (DenX lodoqTopics_10.xs) :=
  .ite (decide (d.1.2.2.1 = 0) && (decide (d.1.2.1.length = 0) && (spDok d.2.2.1.1 d.2.2.1.2.1 && (decide (d.1.1 ≤ (16 : Int)) || decide (d.2.1.2.1 ≠ 0))))) (.ret (.ret ((), (((spRep (spoqTD d.2.1.1 d.2.2.1.1) d.1.1.toNat (d.2.1.2.1, d.2.2.1.2.1)).1, ()), decOutB d.2.1.1 d.2.2.1.1 (spRep (spoqTD d.2.1.1 d.2.2.1.1) d.1.1.toNat (d.2.1.2.1, d.2.2.1.2.1)).2)))) .no
def lpdoqTopics : Lp := lpT [(10, loHd lodoqTopics_10 FdoqTopics_10)]
def stepdoqTopics_10 {R : Type} (h4 : Int) (h5 : List toqTopic.den) (h6 : Int) (h7 : Int) (h8 : Int) (h9 : List Int) (h10 : Int) (next : Int → List toqTopic.den → Int → Int → Int → List Int → Int → Option R) (out : DenX lodoqTopics_10.xs → Option R) : Option R := bif decide (h6 < h4) then bif h8 == 0 then bif spDok h9 h10 then bif decide (h5.length + 1 ≤ 4294967296) then next (h4) (h5 ++ [(spoqTD h7 h9 (h8, h10)).fst]) (IntKind.i32.wrap (h6 + 1)) (h7) ((spoqTD h7 h9 (h8, h10)).snd.fst) (h9) ((spoqTD h7 h9 (h8, h10)).snd.snd) else none else none else out (.ret ((), ((h5, ()), ((h7, (h8, ())), ((h9, (h10, ())), ((), ())))))) else out (.ret ((), ((h5, ()), ((h7, (h8, ())), ((h9, (h10, ())), ((), ()))))))
def itdoqTopics_10 (n : Nat) (h4 : Int) (h5 : List toqTopic.den) (h6 : Int) (h7 : Int) (h8 : Int) (h9 : List Int) (h10 : Int) : Option (DenX lodoqTopics_10.xs) := lpN tt hddoqTopics dr lpdoqTopics 3 Go.Proofs.Tryz.f92 (topL Go.Proofs.Tryz.f92 0) n (lodoqTopics_10.st.mk' ((h4, (h5, (h6, ()))), ((h7, (h8, ())), ((h9, (h10, ())), ((), ()))))) (decX lodoqTopics_10.xs)
theorem sldoqTopics_10 (n : Nat) (h4 : Int) (h5 : List toqTopic.den) (h6 : Int) (h7 : Int) (h8 : Int) (h9 : List Int) (h10 : Int) : itdoqTopics_10 (n + 1) h4 h5 h6 h7 h8 h9 h10 = stepdoqTopics_10 h4 h5 h6 h7 h8 h9 h10 (itdoqTopics_10 n) some := by kernel_rfl
theorem loopdoqTopics (n v : Int) (b : List Int) : ∀ (k j : Nat) (xs : List toqTopic.den) (s : DeS), n.toNat < j + k → j ≤ n.toNat → xs.length = j → spDok b s.2 = true → (s.1 = 0 → n ≤ 16) →
    itdoqTopics_10 k n xs j v s.1 b s.2 = some (.ret ((), ((xs ++ (spRep (spoqTD v b) (n.toNat - j) s).1, ()), decOutB v b (spRep (spoqTD v b) (n.toNat - j) s).2))) := by
  intro k
  induction k with
  | zero => intro j xs s h; omega
  | succ k ih =>
    intro j xs s h1 h2 h3 h4 h5
    rw [sldoqTopics_10]
    unfold stepdoqTopics_10
    by_cases hj : (j : Int) < n
    · refine (bif_true (by simpa using hj) _ _).trans ?_
      obtain ⟨m, hm⟩ : ∃ m, n.toNat - j = m + 1 := ⟨n.toNat - j - 1, by omega⟩
      rw [hm]
      by_cases he : s.1 = 0
      · refine (bif_true (by simpa using he) _ _).trans ?_
        have hn := h5 he
        refine (bif_true h4 _ _).trans ?_
        refine (bif_true (decide_eq_true (show xs.length + 1 ≤ 4294967296 by omega)) _ _).trans ?_
        have hw : IntKind.i32.wrap ((j : Int) + 1) = ((j + 1 : Nat) : Int) := wrap_id (by simp [inR, IntKind.min, IntKind.max, IntKind.signed, IntKind.bits]; omega)
        rw [hw]
        refine (ih (j + 1) (xs ++ [(spoqTD v b s).1]) (spoqTD v b s).2 (by omega) (by omega) (by simp [h3]) (spoqTD_ok h4) (fun _ => hn)).trans ?_
        rw [show n.toNat - (j + 1) = m by omega, spRep, if_pos he]
        simp
      · refine (bif_false (by simpa using he) _ _).trans ?_
        rw [spRep, if_neg he]
        simp
    · refine (bif_false (by simpa using hj) _ _).trans ?_
      rw [show n.toNat - j = 0 by omega, spRep]
      simp
def bodydoqTopics (a0 : Int) (a1 : Int) (a2 : List Int) (a3 : Int) : Option iodoqTopics.Res := bif spDok a2 a3 then bif (spDn IntKind.i32 4 a2 (a1, a3)).snd.fst != 0 then (FdoqTopics_10 (((spDn IntKind.i32 4 a2 (a1, a3)).fst, ([], (0, ()))), ((a0, ((spDn IntKind.i32 4 a2 (a1, a3)).snd.fst, ())), ((a2, ((spDn IntKind.i32 4 a2 (a1, a3)).snd.snd, ())), ((), ()))))).run fun y => match y with | .ret ((), ((x28, ()), (x29, x30, ()), (x31, x32, ()), (), ())) => (some (Out.ret ((x28, ()), ((), x29, x30, ()), (x31, x32, ()), ((), ()), ()))) else bif decide ((spDn IntKind.i32 4 a2 (a1, a3)).fst < 0) then (FdoqTopics_10 (((spDn IntKind.i32 4 a2 (a1, a3)).fst, ([], (0, ()))), ((a0, (5, ())), ((a2, ((spDn IntKind.i32 4 a2 (a1, a3)).snd.snd, ())), ((), ()))))).run fun y => match y with | .ret ((), ((x40, ()), (x41, x42, ()), (x43, x44, ()), (), ())) => (some (Out.ret ((x40, ()), ((), x41, x42, ()), (x43, x44, ()), ((), ()), ()))) else bif decide (16 < (spDn IntKind.i32 4 a2 (a1, a3)).fst) then (FdoqTopics_10 (((spDn IntKind.i32 4 a2 (a1, a3)).fst, ([], (0, ()))), ((a0, (9, ())), ((a2, ((spDn IntKind.i32 4 a2 (a1, a3)).snd.snd, ())), ((), ()))))).run fun y => match y with | .ret ((), ((x52, ()), (x53, x54, ()), (x55, x56, ()), (), ())) => (some (Out.ret ((x52, ()), ((), x53, x54, ()), (x55, x56, ()), ((), ()), ()))) else (FdoqTopics_10 (((spDn IntKind.i32 4 a2 (a1, a3)).fst, ([], (0, ()))), ((a0, ((spDn IntKind.i32 4 a2 (a1, a3)).snd.fst, ())), ((a2, ((spDn IntKind.i32 4 a2 (a1, a3)).snd.snd, ())), ((), ()))))).run fun y => match y with | .ret ((), ((x64, ()), (x65, x66, ()), (x67, x68, ()), (), ())) => (some (Out.ret ((x64, ()), ((), x65, x66, ()), (x67, x68, ()), ((), ()), ()))) else none
theorem rundoqTopics (a0 : Int) (a1 : Int) (a2 : List Int) (a3 : Int) : Io.run tt hddoqTopics dr lpdoqTopics iodoqTopics Go.Proofs.Tryz.f92 (((), (), ()), ((), a0, a1, ()), (a2, a3, ()), ((), ()), ()) = bodydoqTopics a0 a1 a2 a3 := by kernel_rfl
theorem okdoqTopics : HcOk prog 92 (ioHd iodoqTopics FdoqTopics) := by
  refine fn_sound (n := 400) hm (cs := csdoqTopics) (.cons okdI32 (.cons okdoqTopic .nil)) (lp := lpdoqTopics) (fn := Go.Proofs.Tryz.f92) (by kernel_rfl) (by kernel_rfl) (by kernel_rfl) iodoqTopics (.step (h0 := loHd lodoqTopics_10 FdoqTopics_10) (by kernel_rfl) (loop_sound (n := 400) hm (cs := csdoqTopics) (.cons okdI32 (.cons okdoqTopic .nil)) (lp := lpdoqTopics) (fn := Go.Proofs.Tryz.f92) (.done (by kernel_rfl)) lodoqTopics_10 FdoqTopics_10 ?_) (.done (by kernel_rfl))) FdoqTopics ?_
  · rintro ⟨⟨(n : Int), (xs : List toqTopic.den), (i : Int), ⟨⟩⟩, ⟨⟨(v : Int), (e : Int), ⟨⟩⟩, ⟨(b : List Int), (p : Int), ⟨⟩⟩, ⟨⟨⟩, ⟨⟩⟩⟩⟩ y hw hy
    obtain ⟨hg, hy⟩ := Tr.guard hy
    simp only [Bool.and_eq_true, decide_eq_true_eq, Bool.or_eq_true] at hg
    obtain ⟨h1, h2, h3, h4⟩ := hg
    have h1 : i = 0 := h1
    have h2 : xs = [] := List.eq_nil_of_length_eq_zero h2
    have h3 : spDok b p = true := h3
    have h4 : n ≤ 16 ∨ e ≠ 0 := h4
    subst h1
    subst h2
    refine ⟨n.toNat + 1, (loopdoqTopics n v b (n.toNat + 1) 0 [] (e, p) (by omega) (by omega) rfl h3 (fun he => h4.resolve_right (fun h => h he))).trans ?_⟩
    rw [← hy]; rfl
  · rintro ⟨⟨⟨⟩, ⟨⟩, ⟨⟩⟩, ⟨⟨⟩, (v : Int), (e : Int), ⟨⟩⟩, ⟨(b : List Int), (p : Int), ⟨⟩⟩, ⟨⟨⟩, ⟨⟩⟩, ⟨⟩⟩ out hw ho
    obtain ⟨hg, ho⟩ := Tr.guard ho
    have hg : spDok b p = true := hg
    cases ho
    refine (rundoqTopics v e b p).trans ?_
    unfold bodydoqTopics
    show _ = some (Out.ret (((spoqTsD v b (e, p)).1, ()), decOutC v b (spoqTsD v b (e, p)).2))
    unfold spoqTsD spList
    refine (bif_true hg _ _).trans ?_
    have hr : spDok b (spDn .i32 4 b (e, p)).2.2 = true := spDn_ok .i32 4 (s := (e, p)) hg
    generalize spDn .i32 4 b (e, p) = r at hr ⊢
    obtain ⟨n, e1, q⟩ := r
    have hr : spDok b q = true := hr
    have key : ∀ e' : Int, (e' = 0 → n ≤ 16) → FdoqTopics_10 ((n, ([], (0, ()))), ((v, (e', ())), ((b, (q, ())), ((), ())))) = .ite true (.ret (.ret ((), (((spRep (spoqTD v b) n.toNat (e', q)).1, ()), decOutB v b (spRep (spoqTD v b) n.toNat (e', q)).2)))) .no := by
      intro e' he
      refine congrArg (fun c => Tr.ite c _ _) ?_
      show (decide ((0 : Int) = 0) && (decide (([] : List toqTopic.den).length = 0) && (spDok b q && (decide (n ≤ 16) || decide (e' ≠ 0))))) = true
      rw [hr]
      by_cases h : e' = 0
      · simp [he h]
      · simp [h]
    unfold spLen
    show (bif e1 != 0 then _ else _) = _
    by_cases h1 : e1 = 0
    · refine (bif_false (by simpa using h1) _ _).trans ?_
      show (bif decide (n < 0) then _ else _) = _
      rw [if_pos h1]
      by_cases h2 : n < 0
      · refine (bif_true (by simpa using h2) _ _).trans ?_
        show (FdoqTopics_10 ((n, ([], (0, ()))), ((v, (5, ())), ((b, (q, ())), ((), ()))))).run _ = _
        rw [key 5 (by omega), if_pos h2]
        rfl
      · refine (bif_false (by simpa using h2) _ _).trans ?_
        show (bif decide (16 < n) then _ else _) = _
        rw [if_neg h2]
        by_cases h3 : 16 < n
        · refine (bif_true (by simpa using h3) _ _).trans ?_
          show (FdoqTopics_10 ((n, ([], (0, ()))), ((v, (9, ())), ((b, (q, ())), ((), ()))))).run _ = _
          rw [key 9 (by omega), if_pos h3]
          rfl
        · refine (bif_false (by simpa using h3) _ _).trans ?_
          show (FdoqTopics_10 ((n, ([], (0, ()))), ((v, (e1, ())), ((b, (q, ())), ((), ()))))).run _ = _
          rw [key e1 (by omega), if_neg h3]
          rfl
    · refine (bif_true (by simpa using h1) _ _).trans ?_
      show (FdoqTopics_10 ((n, ([], (0, ()))), ((v, (e1, ())), ((b, (q, ())), ((), ()))))).run _ = _
      rw [key e1 (fun h => absurd h h1), if_neg h1]
      rfl
abbrev iodoqTopicsZ : Io := ⟨[.ptr 0 0, .fnc 93 false [1]], oDecCZ, [], [.dat (.sl 111 toqTopic) false false], none⟩
def FdoqTopicsZ (d : iodoqTopicsZ.In) : Tr iodoqTopicsZ.Res := .ite (decide (d.2.1.2.2.1 ≠ 0)) (.ret (.ret ((([] : List toqTopic.den), ()), d.2))) .no
abbrev csdoqTopicsZ : List (Nat × Hc) := [(81, orHd deadB (ioHd iodI32Z FdI32Z) (ioHd iodI32 FdI32))]
def hddoqTopicsZ : Hd := hdT csdoqTopicsZ
abbrev lodoqTopicsZ_10 : Lo := ⟨⟨[.one (.ptr 0 0), .one (.fnp 93 false [1]), .any, .any, .any, .one (.hol (.int IntKind.i32)), .one (.onl 111 toqTopic 17), .one (.hol (.int IntKind.i32)), .any, .any, .any, .any, .any, .any, .any, .any, .any, .any, .any, .any, .any, .any, .any, .any, .any, .any, .any, .any, .any, .any, .any, .any, .any, .any, .any, .any, .any, .any, .any, .any, .any, .any, .any, .any, .any, .any], [some [.nilp, .hol (.int IntKind.i64), .hol (.int IntKind.i64)], some [.ptr 0 0]]⟩, [(.exit 1, ⟨[.any, .any, .any, .any, .any, .any, .one (.onl 111 toqTopic 17), .any, .any, .any, .any, .any, .any, .any, .any, .any, .any, .any, .any, .any, .any, .any, .any, .any, .any, .any, .any, .any, .any, .any, .any, .any, .any, .any, .any, .any, .any, .any, .any, .any, .any, .any, .any, .any, .any, .any], [some [.nilp, .hol (.int IntKind.i64), .hol (.int IntKind.i64)], some [.ptr 0 0]]⟩)]⟩
-- FdoqTopicsZ_10 : lodoqTopicsZ_10.st.den → Tr (DenX lodoqTopicsZ_10.xs) | ((h2, (h3, (h4, ()))), ((h5, (h6, ())), ((), ())))
def FdoqTopicsZ_10 (d : lodoqTopicsZ_10.st.den) : Tr (DenX lodoqTopicsZ_10.xs) :=
  .ite (decide (d.2.1.2.1 ≠ 0)) (.ret (.ret ((), ((d.1.2.1, ()), d.2)))) .no
def lpdoqTopicsZ : Lp := lpT [(10, loHd lodoqTopicsZ_10 FdoqTopicsZ_10)]
def stepdoqTopicsZ_10 {R : Type} (h2 : Int) (h3 : List toqTopic.den) (h4 : Int) (h5 : Int) (h6 : Int) (next : Int → List toqTopic.den → Int → Int → Int → Option R) (out : DenX lodoqTopicsZ_10.xs → Option R) : Option R := bif decide (h4 < h2) then bif h6 == 0 then none else out (.ret ((), ((h3, ()), ((h5, (h6, ())), ((), ()))))) else out (.ret ((), ((h3, ()), ((h5, (h6, ())), ((), ())))))
def itdoqTopicsZ_10 (n : Nat) (h2 : Int) (h3 : List toqTopic.den) (h4 : Int) (h5 : Int) (h6 : Int) : Option (DenX lodoqTopicsZ_10.xs) := lpN tt hddoqTopicsZ dr lpdoqTopicsZ 2 Go.Proofs.Tryz.f92 (topL Go.Proofs.Tryz.f92 0) n (lodoqTopicsZ_10.st.mk' ((h2, (h3, (h4, ()))), ((h5, (h6, ())), ((), ())))) (decX lodoqTopicsZ_10.xs)
theorem sldoqTopicsZ_10 (n : Nat) (h2 : Int) (h3 : List toqTopic.den) (h4 : Int) (h5 : Int) (h6 : Int) : itdoqTopicsZ_10 (n + 1) h2 h3 h4 h5 h6 = stepdoqTopicsZ_10 h2 h3 h4 h5 h6 (itdoqTopicsZ_10 n) some := by kernel_rfl
def bodydoqTopicsZ (a0 : Int) (a1 : Int) : Option iodoqTopicsZ.Res := bif decide (a1 ≠ 0) then bif a1 != 0 then (FdoqTopicsZ_10 ((0, ([], (0, ()))), ((a0, (a1, ())), ((), ())))).run fun y => match y with | .ret ((), ((x13, ()), (x14, x15, ()), (), ())) => (some (Out.ret ((x13, ()), ((), x14, x15, ()), ((), ()), ()))) else (FdoqTopicsZ_10 ((0, ([], (0, ()))), ((a0, (a1, ())), ((), ())))).run fun y => match y with | .ret ((), ((x21, ()), (x22, x23, ()), (), ())) => (some (Out.ret ((x21, ()), ((), x22, x23, ()), ((), ()), ()))) else none
theorem rundoqTopicsZ (a0 : Int) (a1 : Int) : Io.run tt hddoqTopicsZ dr lpdoqTopicsZ iodoqTopicsZ Go.Proofs.Tryz.f92 (((), (), ()), ((), a0, a1, ()), ((), ()), ()) = bodydoqTopicsZ a0 a1 := by kernel_rfl
theorem okdoqTopicsZ : HcOk prog 92 (ioHd iodoqTopicsZ FdoqTopicsZ) := by
  refine fn_sound (n := 400) hm (cs := csdoqTopicsZ) (.cons (or_sound okdI32Z okdI32) .nil) (lp := lpdoqTopicsZ) (fn := Go.Proofs.Tryz.f92) (by kernel_rfl) (by kernel_rfl) (by kernel_rfl) iodoqTopicsZ (.step (h0 := loHd lodoqTopicsZ_10 FdoqTopicsZ_10) (by kernel_rfl) (loop_sound (n := 400) hm (cs := csdoqTopicsZ) (.cons (or_sound okdI32Z okdI32) .nil) (lp := lpdoqTopicsZ) (fn := Go.Proofs.Tryz.f92) (.done (by kernel_rfl)) lodoqTopicsZ_10 FdoqTopicsZ_10 ?_) (.done (by kernel_rfl))) FdoqTopicsZ ?_
  · rintro ⟨⟨(n : Int), (xs : List toqTopic.den), (i : Int), ⟨⟩⟩, ⟨⟨(v : Int), (e : Int), ⟨⟩⟩, ⟨⟨⟩, ⟨⟩⟩⟩⟩ y hw hy
    obtain ⟨hg, hy⟩ := Tr.guard hy
    have hg : e ≠ 0 := of_decide_eq_true hg
    refine ⟨1, (sldoqTopicsZ_10 0 n xs i v e).trans ?_⟩
    unfold stepdoqTopicsZ_10
    rw [← hy]
    by_cases h : i < n
    · refine (bif_true (by simpa using h) _ _).trans ?_
      exact bif_false (by simpa using hg) _ _
    · exact bif_false (by simpa using h) _ _
  · rintro ⟨⟨⟨⟩, ⟨⟩, ⟨⟩⟩, ⟨⟨⟩, (v : Int), (e : Int), ⟨⟩⟩, ⟨⟨⟩, ⟨⟩⟩, ⟨⟩⟩ out hw ho
    obtain ⟨hg, ho⟩ := Tr.guard ho
    have hg : e ≠ 0 := of_decide_eq_true hg
    cases ho
    refine (rundoqTopicsZ v e).trans ?_
    unfold bodydoqTopicsZ
    have e1 : FdoqTopicsZ_10 ((0, ([], (0, ()))), ((v, (e, ())), ((), ()))) = .ite true (.ret (.ret ((), ((([] : List toqTopic.den), ()), ((v, (e, ())), ((), ())))))) .no := congrArg (fun c => Tr.ite c _ _) (decide_eq_true hg)
    refine (bif_true (by simpa using hg) _ _).trans ?_
    refine (bif_true (by simpa using hg) _ _).trans ?_
    rw [e1]
    rfl
def spoqZ : toqMsg.den := (0, (0, (([] : List toqTopic.den), ())))
def spoqDB (v : Int) (b : List Int) (s : DeS) : toqMsg.den × DeS :=
  (((spDn .i32 4 b s).1, ((spDHasN .i8 1 v 2 3 b (spDn .i32 4 b s).2).1, ((spoqTsD v b (spDHasN .i8 1 v 2 3 b (spDn .i32 4 b s).2).2).1, ()))), (spoqTsD v b (spDHasN .i8 1 v 2 3 b (spDn .i32 4 b s).2).2).2)
def spoqD (v : Int) (b : List Int) : toqMsg.den × Int := if 0 ≤ v ∧ v ≤ 3 ∧ (b.length : Int) ≤ 130048 then (if spDEnd b (spoqDB v b (0, 0)).2 = 0 then ((spoqDB v b (0, 0)).1, 0) else (spoqZ, spDEnd b (spoqDB v b (0, 0)).2)) else (spoqZ, spNewD v)
abbrev iodoqMsg : Io := ⟨[dI, dL], [], [], [.dat toqMsg true false, dI], none⟩
def FdoqMsg (d : iodoqMsg.In) : Tr iodoqMsg.Res := .ret (.ret (((spoqD d.1.1 d.1.2.1).1, ((spoqD d.1.1 d.1.2.1).2, ())), ()))
abbrev csdoqMsg : List (Nat × Hc) := [(79, orHd newBad (ioHd iodNewZ FdNewZ) (ioHd iodNew FdNew)), (80, orHd deadB (ioHd iodHasZ FdHasZ) (ioHd iodHas FdHas)), (81, orHd deadB (ioHd iodI32Z FdI32Z) (ioHd iodI32 FdI32)), (91, orHd deadB (ioHd iodI8Z FdI8Z) (ioHd iodI8 FdI8)), (92, orHd deadB (ioHd iodoqTopicsZ FdoqTopicsZ) (ioHd iodoqTopics FdoqTopics)), (90, orHd deadB (ioHd iodEndZ FdEndZ) (ioHd iodEnd FdEnd))]
def hddoqMsg : Hd := hdT csdoqMsg
def lpdoqMsg : Lp := lpT []
def bodydoqMsg (a0 : Int) (a1 : List Int) : Option iodoqMsg.Res := bif !(decide (0 ≤ a0) && (decide (a0 ≤ 3) && decide ((↑a1.length : Int) ≤ 130048))) then bif decide (0 ≤ a0) && (decide (a0 ≤ 3) && decide ((↑a1.length : Int) ≤ 130048)) then none else bif decide (spNewD a0 ≠ 0) then bif decide (spNewD a0 ≠ 0) then bif decide (spNewD a0 ≠ 0) then bif decide (spNewD a0 ≠ 0) then bif spNewD a0 != 0 then some (Out.ret (((0, 0, [], ()), spNewD a0, ()), ())) else some (Out.ret (((0, 0, [], ()), 0, ()), ())) else none else none else none else none else bif decide (0 ≤ a0) && (decide (a0 ≤ 3) && decide ((↑a1.length : Int) ≤ 130048)) then bif spDok a1 0 then bif spDHas a0 2 3 (spRd a1 0 4).snd.snd then bif spDok a1 (spRd a1 0 4).snd.fst then bif spDok a1 (spDn IntKind.i8 1 a1 ((spRd a1 0 4).snd.snd, (spRd a1 0 4).snd.fst)).snd.snd then bif spDEnd a1 (spoqTsD a0 a1 (spDn IntKind.i8 1 a1 ((spRd a1 0 4).snd.snd, (spRd a1 0 4).snd.fst)).snd).snd != 0 then some (Out.ret (((0, 0, [], ()), spDEnd a1 (spoqTsD a0 a1 (spDn IntKind.i8 1 a1 ((spRd a1 0 4).snd.snd, (spRd a1 0 4).snd.fst)).snd).snd, ()), ())) else some (Out.ret (((IntKind.i32.wrap (spRd a1 0 4).fst, (spDn IntKind.i8 1 a1 ((spRd a1 0 4).snd.snd, (spRd a1 0 4).snd.fst)).fst, (spoqTsD a0 a1 (spDn IntKind.i8 1 a1 ((spRd a1 0 4).snd.snd, (spRd a1 0 4).snd.fst)).snd).fst, ()), 0, ()), ())) else none else none else bif spDok a1 (spRd a1 0 4).snd.fst then bif spDEnd a1 (spoqTsD a0 a1 ((spRd a1 0 4).snd.snd, (spRd a1 0 4).snd.fst)).snd != 0 then some (Out.ret (((0, 0, [], ()), spDEnd a1 (spoqTsD a0 a1 ((spRd a1 0 4).snd.snd, (spRd a1 0 4).snd.fst)).snd, ()), ())) else some (Out.ret (((IntKind.i32.wrap (spRd a1 0 4).fst, 0, (spoqTsD a0 a1 ((spRd a1 0 4).snd.snd, (spRd a1 0 4).snd.fst)).fst, ()), 0, ()), ())) else none else none else none
theorem rundoqMsg (a0 : Int) (a1 : List Int) : Io.run tt hddoqMsg dr lpdoqMsg iodoqMsg Go.Proofs.Tryz.f27 ((a0, a1, ()), ()) = bodydoqMsg a0 a1 := by kernel_rfl
theorem okdoqMsg : HcOk prog 27 (ioHd iodoqMsg FdoqMsg) := by
  refine fn_sound (n := 400) hm (cs := csdoqMsg) (.cons (or_sound okdNewZ okdNew) (.cons (or_sound okdHasZ okdHas) (.cons (or_sound okdI32Z okdI32) (.cons (or_sound okdI8Z okdI8) (.cons (or_sound okdoqTopicsZ okdoqTopics) (.cons (or_sound okdEndZ okdEnd) .nil)))))) (lp := lpdoqMsg) (fn := Go.Proofs.Tryz.f27) (by kernel_rfl) (by kernel_rfl) (by kernel_rfl) iodoqMsg (.done (by kernel_rfl)) FdoqMsg ?_
  rintro ⟨⟨(v : Int), (b : List Int), ⟨⟩⟩, ⟨⟩⟩ out hw ho
  cases ho
  refine (rundoqMsg v b).trans ?_
  unfold bodydoqMsg
  show _ = some (Out.ret (((spoqD v b).1, ((spoqD v b).2, ())), ()))
  by_cases h : 0 ≤ v ∧ v ≤ 3 ∧ (b.length : Int) ≤ 130048
  · have hc : (decide (0 ≤ v) && (decide (v ≤ 3) && decide ((b.length : Int) ≤ 130048))) = true := by simpa using h
    refine (bif_false (by rw [hc]; rfl) _ _).trans ?_
    refine (bif_true hc _ _).trans ?_
    have hg : spDok b ((0, 0) : DeS).2 = true := by simp [spDok]; omega
    unfold spoqD spoqDB
    rw [if_pos h]
    refine (bif_true hg _ _).trans ?_
    have g0 : spDok b (spDn .i32 4 b ((0, 0) : DeS)).2.2 = true := spDn_ok .i32 4 (s := ((0, 0) : DeS)) hg
    show (bif spDHas v 2 3 (spDn .i32 4 b ((0, 0) : DeS)).2.1 then _ else _) = _
    cases h1 : spDHas v 2 3 (spDn .i32 4 b ((0, 0) : DeS)).2.1
    · have e1 : spDHasN .i8 1 v 2 3 b (spDn .i32 4 b ((0, 0) : DeS)).2 = (0, (spDn .i32 4 b ((0, 0) : DeS)).2) := by unfold spDHasN; rw [if_neg (by rw [h1]; decide)]
      rw [e1]
      refine (bif_true g0 _ _).trans ?_
      have gf2 : spDok b (spoqTsD v b (spDn .i32 4 b ((0, 0) : DeS)).2).2.2 = true := spoqTsD_ok (s := (spDn .i32 4 b ((0, 0) : DeS)).2) g0
      show _ = some (Out.ret (((if spDEnd b (spoqTsD v b (spDn .i32 4 b ((0, 0) : DeS)).2).2 = 0 then _ else _ : toqMsg.den × Int).1, _), ()))
      by_cases hE : spDEnd b (spoqTsD v b (spDn .i32 4 b ((0, 0) : DeS)).2).2 = 0
      · rw [if_pos hE]
        exact bif_false (show (spDEnd b (spoqTsD v b (spDn .i32 4 b ((0, 0) : DeS)).2).2 != 0) = false by simpa using hE) _ _
      · rw [if_neg hE]
        exact bif_true (show (spDEnd b (spoqTsD v b (spDn .i32 4 b ((0, 0) : DeS)).2).2 != 0) = true by simpa using hE) _ _
    · have e1 : spDHasN .i8 1 v 2 3 b (spDn .i32 4 b ((0, 0) : DeS)).2 = spDn .i8 1 b (spDn .i32 4 b ((0, 0) : DeS)).2 := by unfold spDHasN; rw [if_pos h1]
      rw [e1]
      refine (bif_true g0 _ _).trans ?_
      have g1 : spDok b (spDn .i8 1 b (spDn .i32 4 b ((0, 0) : DeS)).2).2.2 = true := spDn_ok .i8 1 (s := (spDn .i32 4 b ((0, 0) : DeS)).2) g0
      refine (bif_true g1 _ _).trans ?_
      have gt2 : spDok b (spoqTsD v b (spDn .i8 1 b (spDn .i32 4 b ((0, 0) : DeS)).2).2).2.2 = true := spoqTsD_ok (s := (spDn .i8 1 b (spDn .i32 4 b ((0, 0) : DeS)).2).2) g1
      show _ = some (Out.ret (((if spDEnd b (spoqTsD v b (spDn .i8 1 b (spDn .i32 4 b ((0, 0) : DeS)).2).2).2 = 0 then _ else _ : toqMsg.den × Int).1, _), ()))
      by_cases hE : spDEnd b (spoqTsD v b (spDn .i8 1 b (spDn .i32 4 b ((0, 0) : DeS)).2).2).2 = 0
      · rw [if_pos hE]
        exact bif_false (show (spDEnd b (spoqTsD v b (spDn .i8 1 b (spDn .i32 4 b ((0, 0) : DeS)).2).2).2 != 0) = false by simpa using hE) _ _
      · rw [if_neg hE]
        exact bif_true (show (spDEnd b (spoqTsD v b (spDn .i8 1 b (spDn .i32 4 b ((0, 0) : DeS)).2).2).2 != 0) = true by simpa using hE) _ _
  · have hc : (decide (0 ≤ v) && (decide (v ≤ 3) && decide ((b.length : Int) ≤ 130048))) = false := by
      rw [Bool.eq_false_iff]
      intro h'
      simp only [Bool.and_eq_true, decide_eq_true_eq] at h'
      exact h h'
    have hn : spNewD v ≠ 0 := by unfold spNewD; split <;> decide
    unfold spoqD
    rw [if_neg h]
    refine (bif_true (by rw [hc]; rfl) _ _).trans ?_
    refine (bif_false hc _ _).trans ?_
    repeat refine (bif_true (decide_eq_true hn) _ _).trans ?_
    exact bif_true (by simpa using hn) _ _
end
end Go.Proofs.YtjpeefegeobgfaaGreat.Sym
namespace Go.Proofs.YtjpeefegeobgfaaGreat.Sym
open Go
set_option linter.unusedSimpArgs false
set_option linter.unusedVariables false
noncomputable section
def spoqF (p : toqPart.den) : Nd := ndRow [ndNum 3 p.1, ndNum 3 p.2.1, ndNum 4 p.2.2.1, ndNum 3 p.2.2.2.1]
theorem spoqF_eq {p : toqPart.den} (h : toqPart.wf p) : ndRow [ndNum 3 (IntKind.i64.wrap p.1), ndNum 3 (IntKind.i64.wrap p.2.1), ndNum 4 p.2.2.1, ndNum 3 (IntKind.i64.wrap p.2.2.2.1)] = spoqF p := by
  rw [i64_i32 (n := p.1) h.1, i64_i32 (n := p.2.1) h.2.1, i64_i32 (n := p.2.2.2.1) h.2.2.2.1]; rfl
def spoqFT (t : toqTopic.den) : Nd := ndRow [ndText t.1, ndRows (t.2.1.map spoqF)]
@[irreducible] def spoqFull (m : toqMsg.den) : Nd := ndRow [ndNum 3 m.1, ndNum 1 m.2.1, ndRows (m.2.2.1.map spoqFT)]
def spoqO (x : Nd) : toqPart.den := (IntKind.i32.wrap (spAt x 0).lab.2.1, (IntKind.i32.wrap (spAt x 1).lab.2.1, ((spAt x 2).lab.2.1, (IntKind.i32.wrap (spAt x 3).lab.2.1, ()))))
def spoqOT (x : Nd) : toqTopic.den := ((spAt x 0).lab.2.2.2.1, ((spAt x 1).kids.map spoqO, ()))
@[irreducible] def spoqOM (n : Nd) : toqMsg.den := (IntKind.i32.wrap (spAt n 0).lab.2.1, (IntKind.i8.wrap (spAt n 1).lab.2.1, ((spAt n 2).kids.map spoqOT, ())))
theorem spoqO_full {p : toqPart.den} (h : toqPart.wf p) : spoqO (spoqF p) = p := by
  obtain ⟨(ix : Int), (ep : Int), (ti : Int), (mo : Int), ⟨⟩⟩ := p
  show (IntKind.i32.wrap ix, (IntKind.i32.wrap ep, (ti, (IntKind.i32.wrap mo, ())))) = _
  rw [i32_id (n := ix) h.1, i32_id (n := ep) h.2.1, i32_id (n := mo) h.2.2.2.1]
  try rfl
theorem spoqOT_full {t : toqTopic.den} (h : toqTopic.wf t) : spoqOT (spoqFT t) = t := by
  obtain ⟨n, l, ⟨⟩⟩ := t
  show (n, ((l.map spoqF).map spoqO, ())) = _
  rw [List.map_map, map_id_of (f := spoqO ∘ spoqF) (l := l) fun p hp => spoqO_full (h.2.1.2 p hp)]
theorem spoqOM_full {m : toqMsg.den} (h : toqMsg.wf m) : spoqOM (spoqFull m) = m := by
  obtain ⟨(re : Int), (lv : Int), (ts : List toqTopic.den), ⟨⟩⟩ := m
  unfold spoqOM spoqFull
  show (IntKind.i32.wrap re, (IntKind.i8.wrap lv, ((ts.map spoqFT).map spoqOT, ()))) = _
  rw [i32_id (n := re) h.1, i8_id (n := lv) h.2.1, List.map_map, map_id_of (f := spoqOT ∘ spoqFT) (l := ts) fun t ht => spoqOT_full (h.2.2.1.2 t ht)]
abbrev iozoqFull : Io := ⟨[.dat toqMsg true false], [], [], [dNode], none⟩
def spoqLens (l : List toqTopic.den) : Bool := decide (l.length ≤ 4294967296) && l.all fun t => decide (t.2.1.length ≤ 4294967296)
def FzoqFull (d : iozoqFull.In) : Tr iozoqFull.Res := .ite (spoqLens d.1.1.2.2.1) (.ret (.ret ((spoqFull d.1.1, ()), ()))) .no
abbrev cszoqFull : List (Nat × Hc) := [(130, ioHd iotNum FtNum), (131, ioHd iotRow FtRow), (132, ioHd iotText FtText), (133, ioHd iotRows FtRows)]
def hdzoqFull : Hd := hdT cszoqFull
abbrev lozoqFull_8 : Lo := ⟨⟨[.any, .one (.ptr 1 0), .one (.ptr 2 0), .one (.onl 98 tNode 7), .one (.hol (.int IntKind.i64)), .one (.onl 98 tNode 11), .one (.hol (.int IntKind.i64)), .any, .any, .any, .any, .any, .any, .any, .any, .any, .any, .any, .any, .any, .any, .any, .any, .any, .any, .any, .any, .any, .any, .any, .any, .any, .any, .any, .any, .any, .any, .any, .any, .any, .any, .any, .any, .any, .any, .any, .any, .any, .any, .any, .any, .any, .any, .any, .any, .any, .any, .any, .any, .any, .any, .any, .any, .any, .any, .any, .any, .any, .any, .any, .any, .any, .any, .any, .any, .any, .any, .any, .any, .any, .any, .any, .any, .any, .any], [none, some [.hol (.int IntKind.i32), .hol (.int IntKind.i8), .hol (.sl 111 toqTopic)], some [.hol (.int IntKind.i64), .hol (.int IntKind.i64), .hol .bool, .onl 5 (Ty.int IntKind.u8) 1032, .onl 98 tNode 1034]]⟩, [(.exit 2, ⟨[.any, .one (.ptr 1 0), .one (.ptr 2 0), .one (.onl 98 tNode 7), .one (.hol (.int IntKind.i64)), .one (.onl 98 tNode 11), .any, .any, .any, .any, .any, .any, .any, .any, .any, .any, .any, .any, .any, .any, .any, .any, .any, .any, .any, .any, .any, .any, .any, .any, .any, .any, .any, .any, .any, .any, .any, .any, .any, .any, .any, .any, .any, .any, .any, .any, .any, .any, .any, .any, .any, .any, .any, .any, .any, .any, .any, .any, .any, .any, .any, .any, .any, .any, .any, .any, .any, .any, .any, .any, .any, .any, .any, .any, .any, .any, .any, .any, .any, .any, .any, .any, .any, .any, .any], [none, some [.hol (.int IntKind.i32), .hol (.int IntKind.i8), .hol (.sl 111 toqTopic)], some [.hol (.int IntKind.i64), .hol (.int IntKind.i64), .hol .bool, .onl 5 (Ty.int IntKind.u8) 1032, .onl 98 tNode 1034]]⟩)]⟩
-- FzoqFull_8 : lozoqFull_8.st.den → Tr (DenX lozoqFull_8.xs) | ((h13, (h14, (h15, (h16, ())))), ((h17, (h18, (h19, ()))), ((h20, (h21, (h22, (h23, (h24, ()))))), ())))
abbrev lozoqFull_4 : Lo := ⟨⟨[.any, .one (.ptr 1 0), .one (.ptr 2 0), .one (.onl 98 tNode 7), .one (.hol (.int IntKind.i64)), .any, .any, .any, .any, .any, .any, .any, .any, .any, .any, .any, .any, .any, .any, .any, .any, .any, .any, .any, .any, .any, .any, .any, .any, .any, .any, .any, .any, .any, .any, .any, .any, .any, .any, .any, .any, .any, .any, .any, .any, .any, .any, .any, .any, .any, .any, .any, .any, .any, .any, .any, .any, .any, .any, .any, .any, .any, .any, .any, .any, .any, .any, .any, .any, .any, .any, .any, .any, .any, .any, .any, .any, .any, .any, .any, .any, .any, .any, .any, .any], [none, some [.hol (.int IntKind.i32), .hol (.int IntKind.i8), .hol (.sl 111 toqTopic)], some [.hol (.int IntKind.i64), .hol (.int IntKind.i64), .hol .bool, .onl 5 (Ty.int IntKind.u8) 1032, .onl 98 tNode 1034]]⟩, [(.exit 0, ⟨[.any, .one (.ptr 1 0), .one (.ptr 2 0), .one (.onl 98 tNode 7), .any, .any, .any, .any, .any, .any, .any, .any, .any, .any, .any, .any, .any, .any, .any, .any, .any, .any, .any, .any, .any, .any, .any, .any, .any, .any, .any, .any, .any, .any, .any, .any, .any, .any, .any, .any, .any, .any, .any, .any, .any, .any, .any, .any, .any, .any, .any, .any, .any, .any, .any, .any, .any, .any, .any, .any, .any, .any, .any, .any, .any, .any, .any, .any, .any, .any, .any, .any, .any, .any, .any, .any, .any, .any, .any, .any, .any, .any, .any, .any, .any], [none, some [.hol (.int IntKind.i32), .hol (.int IntKind.i8), .hol (.sl 111 toqTopic)], some [.hol (.int IntKind.i64), .hol (.int IntKind.i64), .hol .bool, .onl 5 (Ty.int IntKind.u8) 1032, .onl 98 tNode 1034]]⟩)]⟩
-- FzoqFull_4 : lozoqFull_4.st.den → Tr (DenX lozoqFull_4.xs) | ((h3, (h4, ())), ((h5, (h6, (h7, ()))), ((h8, (h9, (h10, (h11, (h12, ()))))), ())))
def FzoqFull_8 (d : lozoqFull_8.st.den) : Tr (DenX lozoqFull_8.xs) :=
  .ite ((decide ((0 : Int) ≤ d.1.2.1) && decide (d.1.2.1 < (d.2.1.2.2.1.length : Int))) && ((decide (d.1.2.2.1.length = 0) && decide (d.1.2.2.2.1 = 0)) && decide ((d.2.1.2.2.1.getD d.1.2.1.toNat toqTopic.zero).2.1.length ≤ 4294967296)))
    (.ret (.ret ((), ((d.1.1, (d.1.2.1, ((d.2.1.2.2.1.getD d.1.2.1.toNat toqTopic.zero).2.1.map spoqF, ()))), (d.2.1, (d.2.2.1, ())))))) .no
def FzoqFull_4 (d : lozoqFull_4.st.den) : Tr (DenX lozoqFull_4.xs) :=
  .ite ((decide (d.1.1.length = 0) && decide (d.1.2.1 = 0)) && spoqLens d.2.1.2.2.1)
    (.ret (.ret ((), ((d.2.1.2.2.1.map spoqFT, ()), (d.2.1, (d.2.2.1, ())))))) .no
def lpzoqFull : Lp := lpT [(4, loHd lozoqFull_4 FzoqFull_4), (8, loHd lozoqFull_8 FzoqFull_8)]
def stepzoqFull_8 {R : Type} (h13 : List tNode.den) (h14 : Int) (h15 : List tNode.den) (h16 : Int) (h17 : Int) (h18 : Int) (h19 : List toqTopic.den) (h20 : Int) (h21 : Int) (h22 : Bool) (h23 : List Int) (h24 : List tNode.den) (next : List tNode.den → Int → List tNode.den → Int → Int → Int → List toqTopic.den → Int → Int → Bool → List Int → List tNode.den → Option R) (out : DenX lozoqFull_8.xs → Option R) : Option R := bif decide (0 ≤ h14) && decide (h14 < (↑h19.length : Int)) then bif decide (h16 < (↑(List.length (h19.getD h14.toNat ([], [], ())).snd.fst) : Int)) then bif decide (0 ≤ h14) && decide (h14 < (↑h19.length : Int)) then bif decide (0 ≤ h16) && decide (h16 < (↑(List.length (h19.getD h14.toNat ([], [], ())).snd.fst) : Int)) then bif decide (h15.length + 1 ≤ 4294967296) then next (h13) (h14) (h15 ++ [Tre.mk (10, 0, false, [], ()) [Tre.mk (3, IntKind.i64.wrap (List.getD (h19.getD h14.toNat ([], [], ())).snd.fst h16.toNat (0, 0, 0, 0, ())).fst, false, [], ()) [], Tre.mk (3, IntKind.i64.wrap (List.getD (h19.getD h14.toNat ([], [], ())).snd.fst h16.toNat (0, 0, 0, 0, ())).snd.fst, false, [], ()) [], Tre.mk (4, (List.getD (h19.getD h14.toNat ([], [], ())).snd.fst h16.toNat (0, 0, 0, 0, ())).snd.snd.fst, false, [], ()) [], Tre.mk (3, IntKind.i64.wrap (List.getD (h19.getD h14.toNat ([], [], ())).snd.fst h16.toNat (0, 0, 0, 0, ())).snd.snd.snd.fst, false, [], ()) []]]) (IntKind.i64.wrap (h16 + 1)) (h17) (h18) (h19) (h20) (h21) (h22) (h23) (h24) else none else none else none else out (.ret ((), ((h13, (h14, (h15, ()))), ((h17, (h18, (h19, ()))), ((h20, (h21, (h22, (h23, (h24, ()))))), ()))))) else none
def itzoqFull_8 (n : Nat) (h13 : List tNode.den) (h14 : Int) (h15 : List tNode.den) (h16 : Int) (h17 : Int) (h18 : Int) (h19 : List toqTopic.den) (h20 : Int) (h21 : Int) (h22 : Bool) (h23 : List Int) (h24 : List tNode.den) : Option (DenX lozoqFull_8.xs) := lpN tt hdzoqFull dr lpzoqFull 0 Go.Proofs.Tryz.f52 (subL Go.Proofs.Tryz.f52 (topL Go.Proofs.Tryz.f52 0) 0) n (lozoqFull_8.st.mk' ((h13, (h14, (h15, (h16, ())))), ((h17, (h18, (h19, ()))), ((h20, (h21, (h22, (h23, (h24, ()))))), ())))) (decX lozoqFull_8.xs)
theorem slzoqFull_8 (n : Nat) (h13 : List tNode.den) (h14 : Int) (h15 : List tNode.den) (h16 : Int) (h17 : Int) (h18 : Int) (h19 : List toqTopic.den) (h20 : Int) (h21 : Int) (h22 : Bool) (h23 : List Int) (h24 : List tNode.den) : itzoqFull_8 (n + 1) h13 h14 h15 h16 h17 h18 h19 h20 h21 h22 h23 h24 = stepzoqFull_8 h13 h14 h15 h16 h17 h18 h19 h20 h21 h22 h23 h24 (itzoqFull_8 n) some := by kernel_rfl
def stepzoqFull_4 {R : Type} (h3 : List tNode.den) (h4 : Int) (h5 : Int) (h6 : Int) (h7 : List toqTopic.den) (h8 : Int) (h9 : Int) (h10 : Bool) (h11 : List Int) (h12 : List tNode.den) (next : List tNode.den → Int → Int → Int → List toqTopic.den → Int → Int → Bool → List Int → List tNode.den → Option R) (out : DenX lozoqFull_4.xs → Option R) : Option R := bif decide (h4 < (↑h7.length : Int)) then (FzoqFull_8 ((h3, (h4, ([], (0, ())))), ((h5, (h6, (h7, ()))), ((h8, (h9, (h10, (h11, (h12, ()))))), ())))).run fun y => match y with | .ret ((), ((x48, x49, x50, ()), (x51, x52, x53, ()), (x54, x55, x56, x57, x58, ()), ())) => (bif decide (0 ≤ x49) && decide (x49 < (↑x53.length : Int)) then bif decide (x48.length + 1 ≤ 4294967296) then next (x48 ++ [Tre.mk (10, 0, false, [], ()) [Tre.mk (5, 0, false, (x53.getD x49.toNat ([], [], ())).fst, ()) [], Tre.mk (9, 0, false, [], ()) x50]]) (IntKind.i64.wrap (x49 + 1)) (x51) (x52) (x53) (x54) (x55) (x56) (x57) (x58) else none else none) else out (.ret ((), ((h3, ()), ((h5, (h6, (h7, ()))), ((h8, (h9, (h10, (h11, (h12, ()))))), ())))))
def itzoqFull_4 (n : Nat) (h3 : List tNode.den) (h4 : Int) (h5 : Int) (h6 : Int) (h7 : List toqTopic.den) (h8 : Int) (h9 : Int) (h10 : Bool) (h11 : List Int) (h12 : List tNode.den) : Option (DenX lozoqFull_4.xs) := lpN tt hdzoqFull dr lpzoqFull 0 Go.Proofs.Tryz.f52 (topL Go.Proofs.Tryz.f52 0) n (lozoqFull_4.st.mk' ((h3, (h4, ())), ((h5, (h6, (h7, ()))), ((h8, (h9, (h10, (h11, (h12, ()))))), ())))) (decX lozoqFull_4.xs)
theorem slzoqFull_4 (n : Nat) (h3 : List tNode.den) (h4 : Int) (h5 : Int) (h6 : Int) (h7 : List toqTopic.den) (h8 : Int) (h9 : Int) (h10 : Bool) (h11 : List Int) (h12 : List tNode.den) : itzoqFull_4 (n + 1) h3 h4 h5 h6 h7 h8 h9 h10 h11 h12 = stepzoqFull_4 h3 h4 h5 h6 h7 h8 h9 h10 h11 h12 (itzoqFull_4 n) some := by kernel_rfl
theorem loopzoqFull_8 {ts : List toqTopic.den} (hw : ∀ t ∈ ts, toqTopic.wf t) (hl : ts.length ≤ maxLen) {i : Nat} (hi : i < ts.length) (hp : (ts[i]).2.1.length ≤ 4294967296) (acc : List Nd) (re : Int) (lv : Int) (a' b' : Int) (z' : Bool) (x' : List Int) (l' : List Nd) : ∀ (k j : Nat) (o : List Nd), (ts[i]).2.1.length < j + k → j ≤ (ts[i]).2.1.length → o.length ≤ j →
    itzoqFull_8 k acc i o j re lv ts a' b' z' x' l' = some (.ret ((), ((acc, ((i : Int), (o ++ ((ts[i]).2.1.drop j).map spoqF, ()))), ((re, (lv, (ts, ()))), ((a', (b', (z', (x', (l', ()))))), ()))))) := by
  intro k
  induction k with
  | zero => intro j o h1 h2; omega
  | succ k ih =>
    intro j o h1 h2 h3
    rw [slzoqFull_8]
    unfold stepzoqFull_8
    refine (bif_true (by simp; omega) _ _).trans ?_
    have hti := hw _ (List.getElem_mem hi)
    simp only [Int.toNat_natCast, getD_lt hi]
    generalize ts[i] = t at hp h1 h2 ih hti ⊢
    by_cases hj : j < t.2.1.length
    · refine (bif_true (decide_eq_true (show (j : Int) < (t.2.1.length : Int) by omega)) _ _).trans ?_
      refine (bif_true (by simp; omega) _ _).trans ?_
      refine (bif_true (by simp; omega) _ _).trans ?_
      refine (bif_true (decide_eq_true (show o.length + 1 ≤ 4294967296 by omega)) _ _).trans ?_
      have hpw := hti.2.1.2 _ (List.getElem_mem hj)
      have ih' := ih (j + 1) (o ++ [spoqF t.2.1[j]]) (by omega) (by omega) (by simp; omega)
      have hd : t.2.1.drop j = t.2.1[j] :: t.2.1.drop (j + 1) := List.drop_eq_getElem_cons hj
      rw [hd, wrap_i64 (n := (j : Int) + 1) (by omega) (by omega)]
      have hgp : List.getD t.2.1 ((j : Int)).toNat toqPart.zero = t.2.1[j] := by simp only [Int.toNat_natCast]; exact getD_lt hj

      refine Eq.trans ?_ (ih'.trans ?_)
      · refine congrArg (fun x => itzoqFull_8 k acc i (o ++ [x]) _ re lv ts a' b' z' x' l') ?_
        show ndRow [ndNum 3 (IntKind.i64.wrap (List.getD t.2.1 ((j : Int)).toNat toqPart.zero).1), ndNum 3 (IntKind.i64.wrap (List.getD t.2.1 ((j : Int)).toNat toqPart.zero).2.1), ndNum 4 (List.getD t.2.1 ((j : Int)).toNat toqPart.zero).2.2.1, ndNum 3 (IntKind.i64.wrap (List.getD t.2.1 ((j : Int)).toNat toqPart.zero).2.2.2.1)] = _
        rw [hgp]
        exact spoqF_eq hpw
      · simp only [List.map_cons, List.append_assoc, List.singleton_append]
    · refine (bif_false (decide_eq_false (show ¬ (j : Int) < (t.2.1.length : Int) by omega)) _ _).trans ?_
      rw [List.drop_of_length_le (by omega)]
      simp
theorem loopzoqFull_4 {ts : List toqTopic.den} (hw : ∀ t ∈ ts, toqTopic.wf t) (hl : ts.length ≤ maxLen) (hs : spoqLens ts = true) (re : Int) (lv : Int) (a' b' : Int) (z' : Bool) (x' : List Int) (l' : List Nd) : ∀ (k j : Nat) (o : List Nd), ts.length < j + k → j ≤ ts.length → o.length ≤ j →
    itzoqFull_4 k o j re lv ts a' b' z' x' l' = some (.ret ((), ((o ++ (ts.drop j).map spoqFT, ()), ((re, (lv, (ts, ()))), ((a', (b', (z', (x', (l', ()))))), ()))))) := by
  intro k
  have hs1 := (Bool.and_eq_true _ _ ▸ hs).1
  have hs2 := (Bool.and_eq_true _ _ ▸ hs).2
  have hs1 : ts.length ≤ 4294967296 := of_decide_eq_true hs1
  induction k with
  | zero => intro j o h1 h2; omega
  | succ k ih =>
    intro j o h1 h2 h3
    rw [slzoqFull_4]
    unfold stepzoqFull_4
    by_cases hj : j < ts.length
    · refine (bif_true (decide_eq_true (show (j : Int) < (ts.length : Int) by omega)) _ _).trans ?_
      have hgp : ts.getD ((j : Int)).toNat toqTopic.zero = ts[j] := by simp only [Int.toNat_natCast]; exact getD_lt hj
      have hpl : (ts[j]).2.1.length ≤ 4294967296 := of_decide_eq_true (List.all_eq_true.1 hs2 _ (List.getElem_mem hj))
      have c8 : ((decide ((0 : Int) ≤ (j : Int)) && decide ((j : Int) < (ts.length : Int))) && ((decide (([] : List Nd).length = 0) && decide ((0 : Int) = 0)) && decide ((ts.getD ((j : Int)).toNat toqTopic.zero).2.1.length ≤ 4294967296))) = true := by
        rw [hgp]; simp; omega
      refine (bif_true c8 _ _).trans ?_
      refine (bif_true (by simp; omega) _ _).trans ?_
      refine (bif_true (decide_eq_true (show o.length + 1 ≤ 4294967296 by omega)) _ _).trans ?_
      rw [wrap_i64 (n := (j : Int) + 1) (by omega) (by omega)]
      have ih' := ih (j + 1) (o ++ [spoqFT ts[j]]) (by omega) (by omega) (by simp; omega)
      have hd : ts.drop j = ts[j] :: ts.drop (j + 1) := List.drop_eq_getElem_cons hj
      rw [hd]
      refine Eq.trans ?_ (ih'.trans ?_)
      · refine congrArg (fun x => itzoqFull_4 k (o ++ [x]) _ re lv ts a' b' z' x' l') ?_
        show (ndRow [ndText (ts.getD ((j : Int)).toNat toqTopic.zero).1, ndRows ((ts.getD ((j : Int)).toNat toqTopic.zero).2.1.map spoqF)]) = _
        rw [hgp]; rfl
      · simp only [List.map_cons, List.append_assoc, List.singleton_append]
    · refine (bif_false (decide_eq_false (show ¬ (j : Int) < (ts.length : Int) by omega)) _ _).trans ?_
      rw [List.drop_of_length_le (by omega)]
      simp
def bodyzoqFull (a0 : Int) (a1 : Int) (a2 : List toqTopic.den) : Option iozoqFull.Res := (FzoqFull_4 (([], (0, ())), ((a0, (a1, (a2, ()))), ((0, (0, (false, ([], ([], ()))))), ())))).run fun y => match y with | .ret ((), ((x78, ()), (x79, x80, x81, ()), (x82, x83, x84, x85, x86, ()), ())) => (some (Out.ret ((Tre.mk (10, 0, false, [], ()) [Tre.mk (3, IntKind.i64.wrap x79, false, [], ()) [], Tre.mk (1, IntKind.i64.wrap x80, false, [], ()) [], Tre.mk (9, 0, false, [], ()) x78], ()), ())))
theorem runzoqFull (a0 : Int) (a1 : Int) (a2 : List toqTopic.den) : Io.run tt hdzoqFull dr lpzoqFull iozoqFull Go.Proofs.Tryz.f52 (((a0, a1, a2, ()), ()), ()) = bodyzoqFull a0 a1 a2 := by kernel_rfl
theorem okzoqFull : HcOk prog 52 (ioHd iozoqFull FzoqFull) := by
  refine fn_sound (n := 400) hm (cs := cszoqFull) (.cons oktNum (.cons oktRow (.cons oktText (.cons oktRows .nil)))) (lp := lpzoqFull) (fn := Go.Proofs.Tryz.f52) (by kernel_rfl) (by kernel_rfl) (by kernel_rfl) iozoqFull (.step (h0 := loHd lozoqFull_4 FzoqFull_4) (by kernel_rfl) (loop_sound (n := 400) hm (cs := cszoqFull) (.cons oktNum (.cons oktRow (.cons oktText (.cons oktRows .nil)))) (lp := lpzoqFull) (fn := Go.Proofs.Tryz.f52) (.step (h0 := loHd lozoqFull_8 FzoqFull_8) (by kernel_rfl) (loop_sound (n := 400) hm (cs := cszoqFull) (.cons oktNum (.cons oktRow (.cons oktText (.cons oktRows .nil)))) (lp := lpzoqFull) (fn := Go.Proofs.Tryz.f52) (.done (by kernel_rfl)) lozoqFull_8 FzoqFull_8 ?_) (.done (by kernel_rfl))) lozoqFull_4 FzoqFull_4 ?_) (.done (by kernel_rfl))) FzoqFull ?_
  · rintro ⟨⟨(acc : List Nd), (i : Int), (o : List Nd), (j : Int), ⟨⟩⟩, ⟨⟨(re : Int), (lv : Int), (ts : List toqTopic.den), ⟨⟩⟩, ⟨(a' : Int), (b' : Int), (z' : Bool), (x' : List Int), (l' : List Nd), ⟨⟩⟩, ⟨⟩⟩⟩ y hw hy
    obtain ⟨hg, hy⟩ := Tr.guard hy
    simp only [Bool.and_eq_true, decide_eq_true_eq] at hg
    obtain ⟨⟨h1, h2⟩, ⟨h3, h4⟩, h5⟩ := hg
    have h1 : 0 ≤ i := h1
    have h2 : i < (ts.length : Int) := h2
    have h3 : o = [] := List.eq_nil_of_length_eq_zero h3
    have h4 : j = 0 := h4
    obtain ⟨i, rfl⟩ := toNat_of h1
    subst h3
    subst h4
    have hi : i < ts.length := by omega
    have hgp : ts.getD ((i : Int)).toNat toqTopic.zero = ts[i] := by simp only [Int.toNat_natCast]; exact getD_lt hi
    have h5 : (ts.getD ((i : Int)).toNat toqTopic.zero).2.1.length ≤ 4294967296 := h5
    rw [hgp] at h5
    have hwt : ts.length ≤ maxLen ∧ ∀ t ∈ ts, toqTopic.wf t := by have := hw.2.1.2.2.1; exact this
    refine ⟨(ts[i]).2.1.length + 1, (loopzoqFull_8 hwt.2 hwt.1 hi h5 acc re lv a' b' z' x' l' ((ts[i]).2.1.length + 1) 0 [] (by omega) (by omega) (by simp)).trans ?_⟩
    rw [← hy, ← hgp, List.drop_zero]
    rfl
  · rintro ⟨⟨(o : List Nd), (j : Int), ⟨⟩⟩, ⟨⟨(re : Int), (lv : Int), (ts : List toqTopic.den), ⟨⟩⟩, ⟨(a' : Int), (b' : Int), (z' : Bool), (x' : List Int), (l' : List Nd), ⟨⟩⟩, ⟨⟩⟩⟩ y hw hy
    obtain ⟨hg, hy⟩ := Tr.guard hy
    simp only [Bool.and_eq_true, decide_eq_true_eq] at hg
    obtain ⟨⟨h3, h4⟩, h5⟩ := hg
    have h3 : o = [] := List.eq_nil_of_length_eq_zero h3
    have h4 : j = 0 := h4
    have h5 : spoqLens ts = true := h5
    subst h3
    subst h4
    have hwt : ts.length ≤ maxLen ∧ ∀ t ∈ ts, toqTopic.wf t := by have := hw.2.1.2.2.1; exact this
    refine ⟨ts.length + 1, (loopzoqFull_4 hwt.2 hwt.1 h5 re lv a' b' z' x' l' (ts.length + 1) 0 [] (by omega) (by omega) (by simp)).trans ?_⟩
    rw [← hy, List.drop_zero]
    rfl
  · rintro ⟨⟨⟨(re : Int), (lv : Int), (ts : List toqTopic.den), ⟨⟩⟩, ⟨⟩⟩, ⟨⟩⟩ out hw ho
    obtain ⟨hg, ho⟩ := Tr.guard ho
    have hg : spoqLens ts = true := hg
    cases ho
    refine (runzoqFull re lv ts).trans ?_
    unfold bodyzoqFull
    have c1 : ((decide (([] : List Nd).length = 0) && decide ((0 : Int) = 0)) && spoqLens ts) = true := by rw [hg]; rfl
    refine (bif_true c1 _ _).trans ?_
    show _ = some (Out.ret ((spoqFull (re, (lv, (ts, ()))), ()), ()))
    unfold spoqFull
    have hre : IntKind.i64.wrap re = re := i64_i32 hw.1.1.1
    have hlv : IntKind.i64.wrap lv = lv := i64_i8 hw.1.1.2.1
    show some (Out.ret ((ndRow [ndNum 3 (IntKind.i64.wrap re), ndNum 1 (IntKind.i64.wrap lv), ndRows (ts.map spoqFT)], ()), ())) = _
    rw [hre, hlv]
abbrev iozoqOf : Io := ⟨[dNode], [], [], [.dat toqMsg true false], none⟩
def FzoqOf (d : iozoqOf.In) : Tr iozoqOf.Res := .ite (decide (spWt d.1.1 ≤ 4294967296)) (.ret (.ret ((spoqOM d.1.1, ()), ()))) .no
abbrev cszoqOf : List (Nat × Hc) := [(129, ioHd iotAt FtAt)]
def hdzoqOf : Hd := hdT cszoqOf
abbrev lozoqOf_10 : Lo := ⟨⟨[.any, .any, .one (.ptr 2 0), .one (.ptr 3 0), .one (.hol (.sl 98 tNode)), .one (.hol (.int IntKind.i64)), .one (.ptr 6 0), .one (.hol (.sl 98 tNode)), .one (.hol (.int IntKind.i64)), .any, .any, .any, .any, .any, .any, .any, .any, .any, .any, .any, .any, .any, .any, .any, .any, .any, .any, .any, .any, .any, .any, .any, .any, .any, .any, .any, .any, .any, .any, .any, .any, .any, .any, .any, .any, .any, .any, .any, .any, .any, .any, .any, .any, .any, .any, .any, .any, .any, .any, .any, .any, .any, .any, .any, .any, .any, .any, .any, .any, .any, .any, .any, .any, .any, .any, .any, .any, .any, .any, .any, .any, .any, .any, .any, .any, .any, .any, .any, .any, .any, .any], [none, none, some [.hol (.int IntKind.i32), .hol (.int IntKind.i8), .onl 111 toqTopic 1030], some [.hol (.int IntKind.i32), .hol (.int IntKind.i8), .onl 111 toqTopic 1542], none, none, some [.hol .str, .onl 113 toqPart 3076]]⟩, [(.exit 2, ⟨[.any, .any, .one (.ptr 2 0), .one (.ptr 3 0), .one (.hol (.sl 98 tNode)), .one (.hol (.int IntKind.i64)), .one (.ptr 6 0), .any, .any, .any, .any, .any, .any, .any, .any, .any, .any, .any, .any, .any, .any, .any, .any, .any, .any, .any, .any, .any, .any, .any, .any, .any, .any, .any, .any, .any, .any, .any, .any, .any, .any, .any, .any, .any, .any, .any, .any, .any, .any, .any, .any, .any, .any, .any, .any, .any, .any, .any, .any, .any, .any, .any, .any, .any, .any, .any, .any, .any, .any, .any, .any, .any, .any, .any, .any, .any, .any, .any, .any, .any, .any, .any, .any, .any, .any, .any, .any, .any, .any, .any, .any], [none, none, some [.hol (.int IntKind.i32), .hol (.int IntKind.i8), .onl 111 toqTopic 1030], some [.hol (.int IntKind.i32), .hol (.int IntKind.i8), .onl 111 toqTopic 1542], none, none, some [.hol .str, .onl 113 toqPart 3076]]⟩)]⟩
-- FzoqOf_10 : lozoqOf_10.st.den → Tr (DenX lozoqOf_10.xs) | ((h9, (h10, (h11, (h12, ())))), ((h13, (h14, (h15, ()))), ((h16, (h17, (h18, ()))), ((h19, (h20, ())), ()))))
abbrev lozoqOf_5 : Lo := ⟨⟨[.any, .any, .one (.ptr 2 0), .one (.ptr 3 0), .one (.hol (.sl 98 tNode)), .one (.hol (.int IntKind.i64)), .any, .any, .any, .any, .any, .any, .any, .any, .any, .any, .any, .any, .any, .any, .any, .any, .any, .any, .any, .any, .any, .any, .any, .any, .any, .any, .any, .any, .any, .any, .any, .any, .any, .any, .any, .any, .any, .any, .any, .any, .any, .any, .any, .any, .any, .any, .any, .any, .any, .any, .any, .any, .any, .any, .any, .any, .any, .any, .any, .any, .any, .any, .any, .any, .any, .any, .any, .any, .any, .any, .any, .any, .any, .any, .any, .any, .any, .any, .any, .any, .any, .any, .any, .any, .any], [none, none, some [.hol (.int IntKind.i32), .hol (.int IntKind.i8), .onl 111 toqTopic 1030], some [.hol (.int IntKind.i32), .hol (.int IntKind.i8), .onl 111 toqTopic 1542]]⟩, [(.exit 0, ⟨[.any, .any, .one (.ptr 2 0), .one (.ptr 3 0), .any, .any, .any, .any, .any, .any, .any, .any, .any, .any, .any, .any, .any, .any, .any, .any, .any, .any, .any, .any, .any, .any, .any, .any, .any, .any, .any, .any, .any, .any, .any, .any, .any, .any, .any, .any, .any, .any, .any, .any, .any, .any, .any, .any, .any, .any, .any, .any, .any, .any, .any, .any, .any, .any, .any, .any, .any, .any, .any, .any, .any, .any, .any, .any, .any, .any, .any, .any, .any, .any, .any, .any, .any, .any, .any, .any, .any, .any, .any, .any, .any, .any, .any, .any, .any, .any, .any], [none, none, some [.hol (.int IntKind.i32), .hol (.int IntKind.i8), .onl 111 toqTopic 1030], some [.hol (.int IntKind.i32), .hol (.int IntKind.i8), .onl 111 toqTopic 1542]]⟩)]⟩
-- FzoqOf_5 : lozoqOf_5.st.den → Tr (DenX lozoqOf_5.xs) | ((h1, (h2, ())), ((h3, (h4, (h5, ()))), ((h6, (h7, (h8, ()))), ())))
def FzoqOf_10 (d : lozoqOf_10.st.den) : Tr (DenX lozoqOf_10.xs) :=
  .ite ((decide (d.1.2.2.2.1 = 0) && decide (d.2.2.2.1.2.1.length = 0)) && decide (spWts d.1.2.2.1 ≤ 4294967296))
    (.ret (.ret ((), ((d.1.1, (d.1.2.1, ())), (d.2.1, (d.2.2.1, ((d.2.2.2.1.1, (d.1.2.2.1.map spoqO, ())), ()))))))) .no
def FzoqOf_5 (d : lozoqOf_5.st.den) : Tr (DenX lozoqOf_5.xs) :=
  .ite ((decide (d.1.2.1 = 0) && decide (d.2.2.1.2.2.1.length = 0)) && decide (spWts d.1.1 ≤ 4294967296))
    (.ret (.ret ((), ((), (d.2.1, ((d.2.2.1.1, (d.2.2.1.2.1, (d.1.1.map spoqOT, ()))), ())))))) .no
def lpzoqOf : Lp := lpT [(5, loHd lozoqOf_5 FzoqOf_5), (10, loHd lozoqOf_10 FzoqOf_10)]
def stepzoqOf_10 {R : Type} (h9 : List (Nd)) (h10 : Int) (h11 : List (Nd)) (h12 : Int) (h13 : Int) (h14 : Int) (h15 : List toqTopic.den) (h16 : Int) (h17 : Int) (h18 : List toqTopic.den) (h19 : List Int) (h20 : List toqPart.den) (next : List (Nd) → Int → List (Nd) → Int → Int → Int → List toqTopic.den → Int → Int → List toqTopic.den → List Int → List toqPart.den → Option R) (out : DenX lozoqOf_10.xs → Option R) : Option R := bif decide (h12 < (↑h11.length : Int)) then bif decide (0 ≤ h12) && decide (h12 < (↑h11.length : Int)) then bif decide (0 ≤ h12) && decide (h12 < (↑h11.length : Int)) then bif decide (0 ≤ h12) && decide (h12 < (↑h11.length : Int)) then bif decide (0 ≤ h12) && decide (h12 < (↑h11.length : Int)) then bif decide (h20.length + 1 ≤ 4294967296) then next (h9) (h10) (h11) (IntKind.i64.wrap (h12 + 1)) (h13) (h14) (h15) (h16) (h17) (h18) (h19) (h20 ++ [(IntKind.i32.wrap (spAt (Tre.mk (h11.getD h12.toNat (Tre.mk (0, 0, false, [], ()) [])).1 (h11.getD h12.toNat (Tre.mk (0, 0, false, [], ()) [])).2) 0).1.snd.fst, IntKind.i32.wrap (spAt (Tre.mk (h11.getD h12.toNat (Tre.mk (0, 0, false, [], ()) [])).1 (h11.getD h12.toNat (Tre.mk (0, 0, false, [], ()) [])).2) 1).1.snd.fst, (spAt (Tre.mk (h11.getD h12.toNat (Tre.mk (0, 0, false, [], ()) [])).1 (h11.getD h12.toNat (Tre.mk (0, 0, false, [], ()) [])).2) 2).1.snd.fst, IntKind.i32.wrap (spAt (Tre.mk (h11.getD h12.toNat (Tre.mk (0, 0, false, [], ()) [])).1 (h11.getD h12.toNat (Tre.mk (0, 0, false, [], ()) [])).2) 3).1.snd.fst, ())]) else none else none else none else none else none else out (.ret ((), ((h9, (h10, ())), ((h13, (h14, (h15, ()))), ((h16, (h17, (h18, ()))), ((h19, (h20, ())), ()))))))
def itzoqOf_10 (n : Nat) (h9 : List (Nd)) (h10 : Int) (h11 : List (Nd)) (h12 : Int) (h13 : Int) (h14 : Int) (h15 : List toqTopic.den) (h16 : Int) (h17 : Int) (h18 : List toqTopic.den) (h19 : List Int) (h20 : List toqPart.den) : Option (DenX lozoqOf_10.xs) := lpN tt hdzoqOf dr lpzoqOf 0 Go.Proofs.Tryz.f50 (subL Go.Proofs.Tryz.f50 (topL Go.Proofs.Tryz.f50 0) 0) n (lozoqOf_10.st.mk' ((h9, (h10, (h11, (h12, ())))), ((h13, (h14, (h15, ()))), ((h16, (h17, (h18, ()))), ((h19, (h20, ())), ()))))) (decX lozoqOf_10.xs)
theorem slzoqOf_10 (n : Nat) (h9 : List (Nd)) (h10 : Int) (h11 : List (Nd)) (h12 : Int) (h13 : Int) (h14 : Int) (h15 : List toqTopic.den) (h16 : Int) (h17 : Int) (h18 : List toqTopic.den) (h19 : List Int) (h20 : List toqPart.den) : itzoqOf_10 (n + 1) h9 h10 h11 h12 h13 h14 h15 h16 h17 h18 h19 h20 = stepzoqOf_10 h9 h10 h11 h12 h13 h14 h15 h16 h17 h18 h19 h20 (itzoqOf_10 n) some := by kernel_rfl
def stepzoqOf_5 {R : Type} (h1 : List (Nd)) (h2 : Int) (h3 : Int) (h4 : Int) (h5 : List toqTopic.den) (h6 : Int) (h7 : Int) (h8 : List toqTopic.den) (next : List (Nd) → Int → Int → Int → List toqTopic.den → Int → Int → List toqTopic.den → Option R) (out : DenX lozoqOf_5.xs → Option R) : Option R := bif decide (h2 < (↑h1.length : Int)) then bif decide (0 ≤ h2) && decide (h2 < (↑h1.length : Int)) then bif decide (0 ≤ h2) && decide (h2 < (↑h1.length : Int)) then (FzoqOf_10 ((h1, (h2, ((spAt (Tre.mk (h1.getD h2.toNat (Tre.mk (0, 0, false, [], ()) [])).1 (h1.getD h2.toNat (Tre.mk (0, 0, false, [], ()) [])).2) 1).2, (0, ())))), ((h3, (h4, (h5, ()))), ((h6, (h7, (h8, ()))), (((spAt (Tre.mk (h1.getD h2.toNat (Tre.mk (0, 0, false, [], ()) [])).1 (h1.getD h2.toNat (Tre.mk (0, 0, false, [], ()) [])).2) 0).1.snd.snd.snd.fst, ([], ())), ()))))).run fun y => match y with | .ret ((), ((x43, x44, ()), (x45, x46, x47, ()), (x48, x49, x50, ()), (x51, x52, ()), ())) => (bif decide (x50.length + 1 ≤ 4294967296) then next (x43) (IntKind.i64.wrap (x44 + 1)) (x45) (x46) (x47) (x48) (x49) (x50 ++ [(x51, x52, ())]) else none) else none else none else out (.ret ((), ((), ((h3, (h4, (h5, ()))), ((h6, (h7, (h8, ()))), ())))))
def itzoqOf_5 (n : Nat) (h1 : List (Nd)) (h2 : Int) (h3 : Int) (h4 : Int) (h5 : List toqTopic.den) (h6 : Int) (h7 : Int) (h8 : List toqTopic.den) : Option (DenX lozoqOf_5.xs) := lpN tt hdzoqOf dr lpzoqOf 0 Go.Proofs.Tryz.f50 (topL Go.Proofs.Tryz.f50 0) n (lozoqOf_5.st.mk' ((h1, (h2, ())), ((h3, (h4, (h5, ()))), ((h6, (h7, (h8, ()))), ())))) (decX lozoqOf_5.xs)
theorem slzoqOf_5 (n : Nat) (h1 : List (Nd)) (h2 : Int) (h3 : Int) (h4 : Int) (h5 : List toqTopic.den) (h6 : Int) (h7 : Int) (h8 : List toqTopic.den) : itzoqOf_5 (n + 1) h1 h2 h3 h4 h5 h6 h7 h8 = stepzoqOf_5 h1 h2 h3 h4 h5 h6 h7 h8 (itzoqOf_5 n) some := by kernel_rfl
theorem loopzoqOf_10 {ps : List Nd} (hb : spWts ps ≤ 4294967296) (tops : List Nd) (i : Int) (re0 : Int) (lv0 : Int) (ts0 : List toqTopic.den) (re : Int) (lv : Int) (ts : List toqTopic.den) (tn : List Int) : ∀ (k j : Nat) (o : List toqPart.den), ps.length < j + k → j ≤ ps.length → o.length ≤ j →
    itzoqOf_10 k tops i ps j re0 lv0 ts0 re lv ts tn o = some (.ret ((), ((tops, (i, ())), ((re0, (lv0, (ts0, ()))), ((re, (lv, (ts, ()))), ((tn, (o ++ (ps.drop j).map spoqO, ())), ())))))) := by
  intro k
  have hlen := spWts_len ps
  induction k with
  | zero => intro j o h1 h2; omega
  | succ k ih =>
    intro j o h1 h2 h3
    rw [slzoqOf_10]
    unfold stepzoqOf_10
    by_cases hj : j < ps.length
    · refine (bif_true (decide_eq_true (show (j : Int) < (ps.length : Int) by omega)) _ _).trans ?_
      have hmem := spWt_mem (List.getElem_mem hj)
      have ih' := ih (j + 1) (o ++ [spoqO ps[j]]) (by omega) (by omega) (by simp; omega)
      have hd : ps.drop j = ps[j] :: ps.drop (j + 1) := List.drop_eq_getElem_cons hj
      rw [hd, wrap_i64 (n := (j : Int) + 1) (by omega) (by omega)]
      simp only [Int.toNat_natCast, getD_lt hj]
      generalize ps[j] = u at hmem ih' ⊢
      obtain ⟨ul, uk⟩ := u
      refine (bif_true (by simp; omega) _ _).trans ?_
      refine (bif_true (by simp; omega) _ _).trans ?_
      refine (bif_true (by simp; omega) _ _).trans ?_
      refine (bif_true (by simp; omega) _ _).trans ?_
      refine (bif_true (decide_eq_true (show o.length + 1 ≤ 4294967296 by omega)) _ _).trans ?_
      refine ih'.trans ?_
      simp only [List.map_cons, List.append_assoc, List.singleton_append]
    · refine (bif_false (decide_eq_false (show ¬ (j : Int) < (ps.length : Int) by omega)) _ _).trans ?_
      rw [List.drop_of_length_le (by omega)]
      simp
theorem loopzoqOf_5 {nds : List Nd} (hb : spWts nds ≤ 4294967296) (re0 : Int) (lv0 : Int) (ts0 : List toqTopic.den) (re : Int) (lv : Int) : ∀ (k j : Nat) (ts : List toqTopic.den), nds.length < j + k → j ≤ nds.length → ts.length ≤ j →
    itzoqOf_5 k nds j re0 lv0 ts0 re lv ts = some (.ret ((), ((), ((re0, (lv0, (ts0, ()))), ((re, (lv, (ts ++ (nds.drop j).map spoqOT, ()))), ()))))) := by
  intro k
  have hlen := spWts_len nds
  induction k with
  | zero => intro j o h1 h2; omega
  | succ k ih =>
    intro j ts h1 h2 h3
    rw [slzoqOf_5]
    unfold stepzoqOf_5
    by_cases hj : j < nds.length
    · refine (bif_true (decide_eq_true (show (j : Int) < (nds.length : Int) by omega)) _ _).trans ?_
      have hmem := spWt_mem (List.getElem_mem hj)
      have ih' := ih (j + 1) (ts ++ [spoqOT nds[j]]) (by omega) (by omega) (by simp; omega)
      have hd : nds.drop j = nds[j] :: nds.drop (j + 1) := List.drop_eq_getElem_cons hj
      rw [hd]
      simp only [Int.toNat_natCast, getD_lt hj]
      generalize nds[j] = u at hmem ih' ⊢
      obtain ⟨ul, uk⟩ := u
      refine (bif_true (by simp; omega) _ _).trans ?_
      refine (bif_true (by simp; omega) _ _).trans ?_
      have hw1 := spAt_wt (Tre.mk ul uk) 1
      have hw2 := spWts_kids (spAt (Tre.mk ul uk) 1)
      have cA : ((decide ((0 : Int) = 0) && decide (([] : List toqPart.den).length = 0)) && decide (spWts (spAt (Tre.mk ul uk) 1).kids ≤ 4294967296)) = true := by simp; omega
      refine (bif_true cA _ _).trans ?_
      refine (bif_true (decide_eq_true (show ts.length + 1 ≤ 4294967296 by omega)) _ _).trans ?_
      rw [wrap_i64 (n := (j : Int) + 1) (by omega) (by omega)]
      refine ih'.trans ?_
      simp only [List.map_cons, List.append_assoc, List.singleton_append]
    · refine (bif_false (decide_eq_false (show ¬ (j : Int) < (nds.length : Int) by omega)) _ _).trans ?_
      rw [List.drop_of_length_le (by omega)]
      simp
def bodyzoqOf (a0 : Nd) : Option iozoqOf.Res := (FzoqOf_5 (((spAt (Tre.mk a0.1 a0.2) 2).2, (0, ())), ((0, (0, ([], ()))), ((IntKind.i32.wrap (spAt (Tre.mk a0.1 a0.2) 0).1.snd.fst, (IntKind.i8.wrap (spAt (Tre.mk a0.1 a0.2) 1).1.snd.fst, ([], ()))), ())))).run fun y => match y with | .ret ((), ((), (x67, x68, x69, ()), (x70, x71, x72, ()), ())) => (some (Out.ret (((x70, x71, x72, ()), ()), ())))
theorem runzoqOf (a0 : Nd) : Io.run tt hdzoqOf dr lpzoqOf iozoqOf Go.Proofs.Tryz.f50 ((a0, ()), ()) = bodyzoqOf a0 := by kernel_rfl
theorem okzoqOf : HcOk prog 50 (ioHd iozoqOf FzoqOf) := by
  refine fn_sound (n := 400) hm (cs := cszoqOf) (.cons oktAt .nil) (lp := lpzoqOf) (fn := Go.Proofs.Tryz.f50) (by kernel_rfl) (by kernel_rfl) (by kernel_rfl) iozoqOf (.step (h0 := loHd lozoqOf_5 FzoqOf_5) (by kernel_rfl) (loop_sound (n := 400) hm (cs := cszoqOf) (.cons oktAt .nil) (lp := lpzoqOf) (fn := Go.Proofs.Tryz.f50) (.step (h0 := loHd lozoqOf_10 FzoqOf_10) (by kernel_rfl) (loop_sound (n := 400) hm (cs := cszoqOf) (.cons oktAt .nil) (lp := lpzoqOf) (fn := Go.Proofs.Tryz.f50) (.done (by kernel_rfl)) lozoqOf_10 FzoqOf_10 ?_) (.done (by kernel_rfl))) lozoqOf_5 FzoqOf_5 ?_) (.done (by kernel_rfl))) FzoqOf ?_
  · rintro ⟨⟨(tops : List Nd), (i : Int), (ps : List Nd), (j : Int), ⟨⟩⟩, ⟨⟨(re0 : Int), (lv0 : Int), (ts0 : List toqTopic.den), ⟨⟩⟩, ⟨(re : Int), (lv : Int), (ts : List toqTopic.den), ⟨⟩⟩, ⟨(tn : List Int), (o : List toqPart.den), ⟨⟩⟩, ⟨⟩⟩⟩ y hw hy
    obtain ⟨hg, hy⟩ := Tr.guard hy
    simp only [Bool.and_eq_true, decide_eq_true_eq] at hg
    obtain ⟨⟨h1, h2⟩, h3⟩ := hg
    have h1 : j = 0 := h1
    have h2 : o = [] := List.eq_nil_of_length_eq_zero h2
    have h3 : spWts ps ≤ 4294967296 := h3
    subst h1
    subst h2
    refine ⟨ps.length + 1, (loopzoqOf_10 h3 tops i re0 lv0 ts0 re lv ts tn (ps.length + 1) 0 [] (by omega) (by omega) (by simp)).trans ?_⟩
    rw [← hy, List.drop_zero]
    rfl
  · rintro ⟨⟨(nds : List Nd), (j : Int), ⟨⟩⟩, ⟨⟨(re0 : Int), (lv0 : Int), (ts0 : List toqTopic.den), ⟨⟩⟩, ⟨(re : Int), (lv : Int), (ts : List toqTopic.den), ⟨⟩⟩, ⟨⟩⟩⟩ y hw hy
    obtain ⟨hg, hy⟩ := Tr.guard hy
    simp only [Bool.and_eq_true, decide_eq_true_eq] at hg
    obtain ⟨⟨h1, h2⟩, h3⟩ := hg
    have h1 : j = 0 := h1
    have h2 : ts = [] := List.eq_nil_of_length_eq_zero h2
    have h3 : spWts nds ≤ 4294967296 := h3
    subst h1
    subst h2
    refine ⟨nds.length + 1, (loopzoqOf_5 h3 re0 lv0 ts0 re lv (nds.length + 1) 0 [] (by omega) (by omega) (by simp)).trans ?_⟩
    rw [← hy, List.drop_zero]
    rfl
  · rintro ⟨⟨(n : Nd), ⟨⟩⟩, ⟨⟩⟩ out hw ho
    obtain ⟨hg, ho⟩ := Tr.guard ho
    have hg : spWt n ≤ 4294967296 := of_decide_eq_true hg
    cases ho
    refine (runzoqOf n).trans ?_
    unfold bodyzoqOf
    obtain ⟨nl, nk⟩ := n
    have hw1 := spAt_wt (Tre.mk nl nk) 2
    have hw2 := spWts_kids (spAt (Tre.mk nl nk) 2)
    have c1 : ((decide ((0 : Int) = 0) && decide (([] : List toqTopic.den).length = 0)) && decide (spWts (spAt (Tre.mk nl nk) 2).kids ≤ 4294967296)) = true := by simp; omega
    refine (bif_true c1 _ _).trans ?_
    show _ = some (Out.ret ((spoqOM (Tre.mk nl nk), ()), ()))
    unfold spoqOM
    rfl
abbrev iozoqTwin : Io := ⟨[.dat toqMsg true false], [], [], [.dat toqMsg true false], none⟩
def FzoqTwin (d : iozoqTwin.In) : Tr iozoqTwin.Res := .ite (spoqLens d.1.1.2.2.1 && decide (spWt (spoqFull d.1.1) ≤ 4294967296)) (.ret (.ret ((d.1.1, ()), ()))) .no
abbrev cszoqTwin : List (Nat × Hc) := [(52, ioHd iozoqFull FzoqFull), (51, ioHd iotTwin FtTwin), (50, ioHd iozoqOf FzoqOf)]
def hdzoqTwin : Hd := hdT cszoqTwin
def lpzoqTwin : Lp := lpT []
def bodyzoqTwin (a0 : Int) (a1 : Int) (a2 : List toqTopic.den) : Option iozoqTwin.Res := bif spoqLens a2 then bif decide (spWt (Tre.mk (spoqFull (a0, a1, a2, ())).1 (spoqFull (a0, a1, a2, ())).2) ≤ 4294967296) then bif decide (spWt (Tre.mk (spoqFull (a0, a1, a2, ())).1 (spoqFull (a0, a1, a2, ())).2) ≤ 4294967296) then some (Out.ret ((spoqOM (Tre.mk (spoqFull (a0, a1, a2, ())).1 (spoqFull (a0, a1, a2, ())).2), ()), ())) else none else none else none
theorem runzoqTwin (a0 : Int) (a1 : Int) (a2 : List toqTopic.den) : Io.run tt hdzoqTwin dr lpzoqTwin iozoqTwin Go.Proofs.Tryz.f14 (((a0, a1, a2, ()), ()), ()) = bodyzoqTwin a0 a1 a2 := by kernel_rfl
theorem okzoqTwin : HcOk prog 14 (ioHd iozoqTwin FzoqTwin) := by
  refine fn_sound (n := 400) hm (cs := cszoqTwin) (.cons okzoqFull (.cons oktTwin (.cons okzoqOf .nil))) (lp := lpzoqTwin) (fn := Go.Proofs.Tryz.f14) (by kernel_rfl) (by kernel_rfl) (by kernel_rfl) iozoqTwin (.done (by kernel_rfl)) FzoqTwin ?_
  rintro ⟨⟨m, ⟨⟩⟩, ⟨⟩⟩ out hw ho
  obtain ⟨hg, ho⟩ := Tr.guard ho
  simp only [Bool.and_eq_true, decide_eq_true_eq] at hg
  obtain ⟨h1, h2⟩ := hg
  have h1 : spoqLens m.2.2.1 = true := h1
  have h2 : spWt (spoqFull m) ≤ 4294967296 := h2
  cases ho
  have hf := spoqOM_full (m := m) hw.1.1
  obtain ⟨re, lv, ts, ⟨⟩⟩ := m
  refine (runzoqTwin re lv ts).trans ?_
  unfold bodyzoqTwin
  generalize spoqFull (re, (lv, (ts, ()))) = n at h2 hf ⊢
  obtain ⟨nl, nk⟩ := n
  refine (bif_true h1 _ _).trans ?_
  refine (bif_true (decide_eq_true h2) _ _).trans ?_
  refine (bif_true (decide_eq_true h2) _ _).trans ?_
  exact congrArg (fun x => some (Out.ret ((x, ()), ()))) hf
abbrev iozoqAlike : Io := ⟨[.dat toqMsg true false, .dat toqMsg true false], [], [], [dB], none⟩
def FzoqAlike (d : iozoqAlike.In) : Tr iozoqAlike.Res := .ite (spoqLens d.1.1.2.2.1 && spoqLens d.1.2.1.2.2.1) (.ret (.ret ((spEqT d.1.1 d.1.2.1, ()), ()))) .no
abbrev cszoqAlike : List (Nat × Hc) := [(52, ioHd iozoqFull FzoqFull), (66, ioHd iotAlike FtAlike)]
def hdzoqAlike : Hd := hdT cszoqAlike
def lpzoqAlike : Lp := lpT []
def bodyzoqAlike (a0 : Int) (a1 : Int) (a2 : List toqTopic.den) (a3 : Int) (a4 : Int) (a5 : List toqTopic.den) : Option iozoqAlike.Res := bif spoqLens a2 then bif spoqLens a5 then some (Out.ret ((spEqN (Tre.mk (spoqFull (a0, a1, a2, ())).1 (spoqFull (a0, a1, a2, ())).2) (Tre.mk (spoqFull (a3, a4, a5, ())).1 (spoqFull (a3, a4, a5, ())).2), ()), ())) else none else none
theorem runzoqAlike (a0 : Int) (a1 : Int) (a2 : List toqTopic.den) (a3 : Int) (a4 : Int) (a5 : List toqTopic.den) : Io.run tt hdzoqAlike dr lpzoqAlike iozoqAlike Go.Proofs.Tryz.f17 (((a0, a1, a2, ()), (a3, a4, a5, ()), ()), ()) = bodyzoqAlike a0 a1 a2 a3 a4 a5 := by kernel_rfl
theorem okzoqAlike : HcOk prog 17 (ioHd iozoqAlike FzoqAlike) := by
  refine fn_sound (n := 400) hm (cs := cszoqAlike) (.cons okzoqFull (.cons oktAlike .nil)) (lp := lpzoqAlike) (fn := Go.Proofs.Tryz.f17) (by kernel_rfl) (by kernel_rfl) (by kernel_rfl) iozoqAlike (.done (by kernel_rfl)) FzoqAlike ?_
  rintro ⟨⟨a, b, ⟨⟩⟩, ⟨⟩⟩ out hw ho
  obtain ⟨hg, ho⟩ := Tr.guard ho
  simp only [Bool.and_eq_true] at hg
  obtain ⟨h1, h2⟩ := hg
  have h1 : spoqLens a.2.2.1 = true := h1
  have h2 : spoqLens b.2.2.1 = true := h2
  cases ho
  have hf := spoqOM_full (m := a) hw.1.1
  have hf' := spoqOM_full (m := b) hw.1.2.1
  have key : spEqN (spoqFull a) (spoqFull b) = spEqT a b := by
    rw [Bool.eq_iff_iff, spEqN_iff, spEqT_iff]
    exact ⟨fun h => by rw [← hf, ← hf', h], fun h => by rw [h]⟩
  obtain ⟨reA, lvA, tsA, ⟨⟩⟩ := a
  obtain ⟨reB, lvB, tsB, ⟨⟩⟩ := b
  refine (runzoqAlike reA lvA tsA reB lvB tsB).trans ?_
  unfold bodyzoqAlike
  generalize spoqFull (reA, (lvA, (tsA, ()))) = n at key ⊢
  generalize spoqFull (reB, (lvB, (tsB, ()))) = n' at key ⊢
  obtain ⟨nl, nk⟩ := n
  obtain ⟨nl', nk'⟩ := n'
  refine (bif_true h1 _ _).trans ?_
  refine (bif_true h2 _ _).trans ?_
  exact congrArg (fun x => some (Out.ret ((x, ()), ()))) key
abbrev iozoqEnc : Io := ⟨[dI, .dat toqMsg true false], [], [], [dL, dI], none⟩
@[irreducible] noncomputable def spoqW (v : Int) (m : toqMsg.den) : List Int × Int := spEW 2 false v (spoqFull m)
def FzoqEnc (d : iozoqEnc.In) : Tr iozoqEnc.Res := .ite (spoqLens d.1.2.1.2.2.1 && decide (8 * spWt (spoqFull d.1.2.1) ≤ 4294967296)) (.ret (.ret (((spoqW d.1.1 d.1.2.1).1, ((spoqW d.1.1 d.1.2.1).2, ())), ()))) .no
abbrev cszoqEnc : List (Nat × Hc) := [(52, ioHd iozoqFull FzoqFull), (53, ioHd iotbEW FtbEW)]
def hdzoqEnc : Hd := hdT cszoqEnc
def lpzoqEnc : Lp := lpT []
def bodyzoqEnc (a0 : Int) (a1 : Int) (a2 : Int) (a3 : List toqTopic.den) : Option iozoqEnc.Res := bif spoqLens a3 then bif decide (8 * spWt (Tre.mk (spoqFull (a1, a2, a3, ())).1 (spoqFull (a1, a2, a3, ())).2) ≤ 4294967296) then some (Out.ret (((spEW 2 false a0 (Tre.mk (spoqFull (a1, a2, a3, ())).1 (spoqFull (a1, a2, a3, ())).2)).fst, (spEW 2 false a0 (Tre.mk (spoqFull (a1, a2, a3, ())).1 (spoqFull (a1, a2, a3, ())).2)).snd, ()), ())) else none else none
theorem runzoqEnc (a0 : Int) (a1 : Int) (a2 : Int) (a3 : List toqTopic.den) : Io.run tt hdzoqEnc dr lpzoqEnc iozoqEnc Go.Proofs.Tryz.f15 ((a0, (a1, a2, a3, ()), ()), ()) = bodyzoqEnc a0 a1 a2 a3 := by kernel_rfl
theorem okzoqEnc : HcOk prog 15 (ioHd iozoqEnc FzoqEnc) := by
  refine fn_sound (n := 400) hm (cs := cszoqEnc) (.cons okzoqFull (.cons oktbEW .nil)) (lp := lpzoqEnc) (fn := Go.Proofs.Tryz.f15) (by kernel_rfl) (by kernel_rfl) (by kernel_rfl) iozoqEnc (.done (by kernel_rfl)) FzoqEnc ?_
  rintro ⟨⟨(v : Int), m, ⟨⟩⟩, ⟨⟩⟩ out hw ho
  obtain ⟨hg, ho⟩ := Tr.guard ho
  simp only [Bool.and_eq_true, decide_eq_true_eq] at hg
  obtain ⟨h1, h2⟩ := hg
  have h1 : spoqLens m.2.2.1 = true := h1
  have h2 : 8 * spWt (spoqFull m) ≤ 4294967296 := h2
  cases ho
  show _ = some (Out.ret (((spoqW v m).1, ((spoqW v m).2, ())), ()))
  unfold spoqW
  obtain ⟨re, lv, ts, ⟨⟩⟩ := m
  refine (runzoqEnc v re lv ts).trans ?_
  unfold bodyzoqEnc
  generalize spoqFull (re, (lv, (ts, ()))) = n at h2 ⊢
  obtain ⟨nl, nk⟩ := n
  refine (bif_true h1 _ _).trans ?_
  exact bif_true (decide_eq_true h2) _ _
end
end Go.Proofs.YtjpeefegeobgfaaGreat.Sym
namespace Go.Proofs.YtjpeefegeobgfaaGreat.Sym
open Go
set_option linter.unusedSimpArgs false
set_option linter.unusedVariables false
noncomputable section
def woqP (v : Int) (p : toqPart.den) : List Int × Int := spSeq (spBE p.1 4, 0) (spSeq (if 3 ≤ v ∧ v ≤ 3 then (spBE p.2.1 4, 0) else ([], 0)) (spSeq (spBE p.2.2.1 8, 0) (spSeq (if 0 ≤ v ∧ v ≤ 0 then (spBE p.2.2.2.1 4, 0) else ([], 0)) ([], 0))))
def woqT (v : Int) (t : toqTopic.den) : List Int × Int := spSeq (spTxt t.1) (spSeq (spArrW (woqP v) t.2.1) ([], 0))
def woqM (v : Int) (m : toqMsg.den) : List Int × Int := spSeq (spBE m.1 4, 0) (spSeq (if 2 ≤ v ∧ v ≤ 3 then (spBE m.2.1 1, 0) else ([], 0)) (spSeq (spArrW (woqT v) m.2.2.1) (([], 0))))
theorem Wri.oqP (v : Int) (p : toqPart.den) : Wri (woqP v p) (spoqPE v p) := (Wri.put p.1 4).seq ((Wri.hasE v 3 3 p.2.1 4).seq ((Wri.put p.2.2.1 8).seq ((Wri.hasE v 0 0 p.2.2.2.1 4).seq (Wri.nop))))
theorem Wri.oqT (v : Int) (t : toqTopic.den) : Wri (woqT v t) (spoqTE v t) := (Wri.str _).seq ((Wri.items fun p hp => Wri.oqP v p).seq Wri.nop)
abbrev foqP : Fd := fld [112, 97, 114, 116] 10 0 3 [fld [105, 110, 100, 101, 120] 3 0 3 [], fld [101, 112, 111, 99, 104] 3 3 3 [], fld [116, 105, 109, 101] 4 0 3 [], fld [109, 111, 115, 116] 3 0 0 []]
abbrev foqT : Fd := fld [116, 111, 112, 105, 99] 10 0 3 [fld [110, 97, 109, 101] 5 0 3 [], fld [112, 97, 114, 116, 115] 9 0 3 [foqP]]
theorem spW_oqP {v : Int} {p : toqPart.den} (hv : 0 ≤ v ∧ v ≤ 3) (h : toqPart.wf p) : spW foqP v (spoqF p) = woqP v p := by
  unfold spoqF woqP
  rw [spW_row, spWZ_has (spHas_in hv.1 hv.2), spWZ_o, spWZ_has (spHas_in hv.1 hv.2), spWZ_o, spWZip_nl, spW_num (by decide) (w := 4) rfl (spFits_i32 h.1), spW_num (by decide) (w := 4) rfl (spFits_i32 h.2.1), spW_num (by decide) (w := 4) rfl (spFits_i32 h.2.2.2.1), spW_num (by decide) (w := 8) rfl (spFits_i64 p.2.2.1)]
  try rfl
theorem spW_oqT {v : Int} {t : toqTopic.den} (hv : 0 ≤ v ∧ v ≤ 3) (h : toqTopic.wf t) : spW foqT v (spoqFT t) = woqT v t := by
  unfold spoqFT woqT
  rw [spW_row, spWZ_has (spHas_in hv.1 hv.2), spWZ_has (spHas_in hv.1 hv.2), spWZip_nl, spW_text, spW_rows, spArrW_congr fun p hp => spW_oqP hv (h.2.1.2 p hp)]
def okoqP (v : Int) (p : toqPart.den) : Bool := (if 3 ≤ v ∧ v ≤ 3 then true else (p.2.1 == 0)) && ((if 0 ≤ v ∧ v ≤ 0 then true else (p.2.2.2.1 == 0)))
theorem spCut_oqP {v : Int} {p : toqPart.den} (hv : 0 ≤ v ∧ v ≤ 3) : (spCut foqP v (spoqF p)).2 = okoqP v p := by
  unfold spoqF okoqP
  rw [spCut_row, spCZ_has (spHas_in hv.1 hv.2), spCZ_opt, spCZ_has (spHas_in hv.1 hv.2), spCZ_opt, spCZ_nil, spCut_leaf (by decide) (by decide), spCut_leaf (by decide) (by decide), spCut_leaf (by decide) (by decide), spCut_leaf (by decide) (by decide), spZero_num, spZero_num]
  simp only [Bool.true_and, Bool.and_true]
theorem spCut_oqT {v : Int} {t : toqTopic.den} (hv : 0 ≤ v ∧ v ≤ 3) : (spCut foqT v (spoqFT t)).2 = t.2.1.all (okoqP v) := by
  unfold spoqFT
  rw [spCut_row, spCZ_has (spHas_in hv.1 hv.2), spCZ_has (spHas_in hv.1 hv.2), spCZ_nil, spCut_leaf (by decide) (by decide), spCut_rows]
  simp only [spCut_oqP hv, Bool.true_and, Bool.and_true]
theorem spWhole_oq (m : toqMsg.den) : spWholeZ spT2q [ndNum 3 m.1, ndNum 1 m.2.1, ndRows (m.2.2.1.map spoqFT)] := by
  unfold spT2q spTopics
  refine spWhole_cons (spWhole_leaf (by decide) (by decide)) (spWhole_cons (spWhole_leaf (by decide) (by decide)) (spWhole_cons ?_ spWhole_nil))
  refine spWhole_rows _ _ fun t => spWhole_row rfl (spWhole_cons (spWhole_leaf (by decide) (by decide)) (spWhole_cons ?_ spWhole_nil))
  exact spWhole_rows _ _ fun p => spWhole_row rfl (spWhole_cons (spWhole_leaf (by decide) (by decide)) (spWhole_cons (spWhole_leaf (by decide) (by decide)) (spWhole_cons (spWhole_leaf (by decide) (by decide)) (spWhole_cons (spWhole_leaf (by decide) (by decide)) spWhole_nil))))
def okoqM (v : Int) (m : toqMsg.den) : Bool := (if 2 ≤ v ∧ v ≤ 3 then true else (m.2.1 == 0)) && ((m.2.2.1.all fun t => t.2.1.all (okoqP v)))
theorem spoqLP_lk {e v : Int} {p : toqPart.den} : spoqLP v p (e, (false, ([] : List Int))) = (spLk e (okoqP v p), (false, [])) := by
  unfold spoqLP okoqP
  rw [spLacks_lk, spLacks_lk, spLk_and]
theorem spoqLPs_lk {v : Int} : ∀ {ps : List toqPart.den} {e : Int}, spoqLPs v ps (e, (false, ([] : List Int))) = (spLk e (ps.all (okoqP v)), (false, []))
  | [], e => by rw [List.all_nil, spLk_true]; rfl
  | p :: ps, e => by
    show spoqLPs v ps (spoqLP v p (e, (false, []))) = _
    rw [spoqLP_lk, spoqLPs_lk, spLk_and, List.all_cons]
theorem spoqLR_lk {v : Int} : ∀ {ts : List toqTopic.den} {e : Int}, spoqLR v ts (e, (false, ([] : List Int))) = (spLk e (ts.all fun t => t.2.1.all (okoqP v)), (false, []))
  | [], e => by rw [List.all_nil, spLk_true]; rfl
  | t :: ts, e => by
    show spoqLR v ts (spoqLPs v t.2.1 (e, (false, []))) = _
    rw [spoqLPs_lk, spoqLR_lk, spLk_and, List.all_cons]
theorem cz_oq {v : Int} {m : toqMsg.den} (hv : 0 ≤ v ∧ v ≤ 3) : (spCZip v spT2q [ndNum 3 m.1, ndNum 1 m.2.1, ndRows (m.2.2.1.map spoqFT)]).2 = okoqM v m := by
  unfold spT2q spTopics okoqM
  rw [spCZ_has (spHas_in hv.1 hv.2), spCZ_opt, spCZ_has (spHas_in hv.1 hv.2), spCZ_nil, spCut_leaf (by decide) (by decide), spCut_leaf (by decide) (by decide), spCut_rows, spZero_num]
  simp only [spCut_oqT hv, Bool.true_and, Bool.and_true, Bool.and_assoc]
theorem wz_oq {v : Int} {m : toqMsg.den} (hv : 0 ≤ v ∧ v ≤ 3) (hm : toqMsg.wf m) : spWZip v spT2q [ndNum 3 m.1, ndNum 1 m.2.1, ndRows (m.2.2.1.map spoqFT)] = woqM v m := by
  unfold spT2q spTopics woqM
  rw [spWZ_has (spHas_in hv.1 hv.2), spWZ_o, spWZ_has (spHas_in hv.1 hv.2), spWZip_nl, spW_num (by decide) (w := 4) rfl (spFits_i32 hm.1), spW_num (by decide) (w := 1) rfl (spFits_i8 hm.2.1), spW_rows, spArrW_congr fun t ht => spW_oqT hv (hm.2.2.1.2 t ht)]
  try rfl
theorem oq_law {v : Int} {m : toqMsg.den} (hm : toqMsg.wf m) : (spDoneO (spoqE v m), spDoneE (spoqE v m)) = spoqW v m := by
  unfold spoqW spoqFull
  rw [spEW_eq (t := spT2q) rfl spChk_2q rfl (spWhole_oq m)]
  unfold spoqE
  rw [spLacks_lk, spoqLR_lk, spLk_and]
  have hr : Wri (woqM v m) _ := (Wri.put m.1 4).seq ((Wri.hasE v 2 3 m.2.1 1).seq ((Wri.items fun t ht => Wri.oqT v t).seq (Wri.nop)))
  refine (hr.done _).trans ?_
  unfold spNewE
  by_cases hv : v < 0 ∨ 3 < v
  · rw [if_pos hv, if_pos hv]
    exact if_pos (by simp [spLk])
  rw [if_neg hv, if_neg hv]
  have hv' : 0 ≤ v ∧ v ≤ 3 := by omega
  rw [cz_oq hv', wz_oq hv' hm]
  show (if spLk 0 (okoqM v m) ≠ 0 then _ else _) = _
  cases hz : okoqM v m
  · exact (if_pos (by decide)).trans (show ([], spLk 0 (okoqM v m)) = _ by rw [hz]; rfl)
  · exact (if_neg (by decide)).trans (if_neg (by decide)).symm
--@alias eoqMsg leat/offsets.EncodeReq
abbrev ioeoqMsg : Io := iooqMsg
def FeoqMsg (d : ioeoqMsg.In) : Tr ioeoqMsg.Res := .ret (.ret (((spoqW d.1.1 d.1.2.1).1, ((spoqW d.1.1 d.1.2.1).2, ())), ()))
theorem okeoqMsg : HcOk prog 16 (ioHd ioeoqMsg FeoqMsg) := by
  refine HcOk.weakW okoqMsg ?_
  rintro ⟨⟨(v : Int), m, ⟨⟩⟩, ⟨⟩⟩ y hw hy
  rw [← hy]
  have h := oq_law (v := v) (m := m) hw.1.2.1
  show some (Out.ret ((spDoneO (spoqE v m), (spDoneE (spoqE v m), ())), ())) = some (Out.ret (((spoqW v m).1, ((spoqW v m).2, ())), ()))
  rw [← h]
theorem okoqP_iff {v : Int} {p : toqPart.den} (h : okoqP v p = true) : (¬ (3 ≤ v ∧ v ≤ 3) → p.2.1 = 0) ∧ (¬ (0 ≤ v ∧ v ≤ 0) → p.2.2.2.1 = 0) := by
  unfold okoqP at h
  simp only [Bool.and_eq_true] at h
  exact ⟨fun hv => by have h1 := h.1; rw [if_neg hv] at h1; simpa using h1, fun hv => by have h1 := h.2; rw [if_neg hv] at h1; simpa using h1⟩
theorem Rd.oqP {b : List Int} {p : toqPart.den} {v : Int} (h : toqPart.wf p) (hk : okoqP v p = true) : Rd b p (woqP v p) (spoqPD v b) :=
  (Rd.seq (fun a r => (a, r)) (Rd.num (wrapBE_i32 h.1)) (Rd.seq (fun a r => (a, r)) (Rd.opt (wrapBE_i32 h.2.1) (okoqP_iff hk).1) (Rd.seq (fun a r => (a, r)) (Rd.num (wrapBE_i64 h.2.2.1)) (Rd.seq (fun a r => (a, r)) (Rd.opt (wrapBE_i32 h.2.2.2.1) (okoqP_iff hk).2) (Rd.nop b ()))))).congr fun s => by unfold spoqPD; rfl
theorem Rd.oqT {b : List Int} {t : toqTopic.den} {v : Int} (h : toqTopic.wf t) (hk : t.2.1.all (okoqP v) = true) : Rd b t (woqT v t) (spoqTD v b) :=
  (Rd.seq (fun a r => (a, r)) (Rd.txt t.1) (Rd.seq (fun a r => (a, r)) (Rd.list fun p hp => Rd.oqP (h.2.1.2 p hp) (List.all_eq_true.1 hk p hp)) (Rd.nop b ()))).congr fun s => by unfold spoqTD spoqPsD; rfl
end
end Go.Proofs.YtjpeefegeobgfaaGreat.Sym
namespace Go.Proofs.YtjpeefegeobgfaaGreat.Sym
open Go
set_option linter.unusedSimpArgs false
set_option linter.unusedVariables false
noncomputable section
def spN8E (x : Int) (s : EnS) : EnS := spPutE x 8 s
def spNsE (xs : List Int) (s : EnS) : EnS := spItems spN8E xs s
theorem spN8E_le {s : EnS} (x : Int) (h : s.2.2.length ≤ 130048) : (spN8E x s).2.2.length ≤ 130048 := spPutE_le _ _ h
theorem spNsE_le {s : EnS} (xs : List Int) (h : s.2.2.length ≤ 130048) : (spNsE xs s).2.2.length ≤ 130048 := spItems_le (fun x s => spN8E_le x) xs h
def spHasNs (v lo hi : Int) (xs : List Int) (s : EnS) : EnS := if lo ≤ v ∧ v ≤ hi then spNsE xs s else s
theorem spHasNs_in {v lo hi : Int} {xs : List Int} {s : EnS} (h : lo ≤ v ∧ v ≤ hi) : spHasNs v lo hi xs s = spNsE xs s := by unfold spHasNs; rw [if_pos h]
theorem spHasNs_out {v lo hi : Int} {xs : List Int} {s : EnS} (h : ¬ (lo ≤ v ∧ v ≤ hi)) : spHasNs v lo hi xs s = s := by unfold spHasNs; rw [if_neg h]
theorem spHasNs_le {s : EnS} (v lo hi : Int) (xs : List Int) (h : s.2.2.length ≤ 130048) : (spHasNs v lo hi xs s).2.2.length ≤ 130048 := by
  unfold spHasNs
  split
  · exact spNsE_le xs h
  · exact h
abbrev encOutN (v : Int) (s : EnS) : (Int × (Int × (Bool × Unit))) × ((List Int × (Int × Unit)) × Unit) := ((v, (s.1, (s.2.1, ()))), ((s.2.2, (130048, ())), ()))
@[irreducible] noncomputable def spNsD (b : List Int) (s : DeS) : List Int × DeS := spList (spDn .i64 8 b) b s
theorem spNsD_ok {b : List Int} {s : DeS} (h : spDok b s.2 = true) : spDok b (spNsD b s).2.2 = true := by
  unfold spNsD
  exact spList_ok (fun s h => spDn_ok .i64 8 h) h
def spDHasNs (v lo hi : Int) (b : List Int) (s : DeS) : List Int × DeS := if spDHas v lo hi s.1 = true then spNsD b s else ([], s)
theorem spDHasNs_ok {v lo hi : Int} {b : List Int} {s : DeS} (h : spDok b s.2 = true) : spDok b (spDHasNs v lo hi b s).2.2 = true := by
  unfold spDHasNs
  split
  · exact spNsD_ok h
  · exact h
theorem spDHas_rng {v lo hi e : Int} (h : spDHas v lo hi e = true) : lo ≤ v ∧ v ≤ hi := by
  unfold spDHas at h
  split at h
  · rename_i h'; exact h'.2
  · cases h
theorem spDHasN_in {k : IntKind} {n : Nat} {v lo hi : Int} {b : List Int} (h : lo ≤ v ∧ v ≤ hi) (s : DeS) : spDHasN k n v lo hi b s = spDn k n b s := by
  unfold spDHasN spDHas
  by_cases he : s.1 = 0
  · rw [if_pos (by rw [if_pos ⟨he, h⟩])]
  · rw [if_neg (by rw [if_neg (fun hh => he hh.1)]; decide)]
    unfold spDn; rw [if_neg he]
abbrev decOutN (v : Int) (b : List Int) (s : DeS) : (Int × (Int × Unit)) × ((List Int × (Int × Unit)) × Unit) := ((v, (s.1, ())), ((b, (s.2, ())), ()))
abbrev ioeNs : Io := ⟨[.ptr 0 0, .dat (.sl 2 (.int .i64)) false false, .fnc 64 true [0]], oEnc, [], [], none⟩
def FeNs (d : ioeNs.In) : Tr ioeNs.Res := .ite (encOk d.2) (.ret (.ret ((), encOut d.2.1.2.1 (spNsE d.1.2.1 (encSt d.2))))) .no
abbrev cseNs : List (Nat × Hc) := [(137, ioHd ioeFail FeFail), (56, ioHd ioeI32 FeI32), (64, ioHd ioeI64 FeI64)]
def hdeNs : Hd := hdT cseNs
abbrev loeNs_5 : Lo := ⟨⟨[.any, .any, .one (.fnp 64 true [0]), .any, .any, .any, .any, .any, .any, .any, .any, .any, .any, .any, .any, .any, .any, .any, .one (.hol (.sl 2 (Ty.int IntKind.i64))), .one (.hol (.int IntKind.i64)), .one (.hol (.int IntKind.i64)), .any, .any, .any, .any, .any, .any, .any], [some [.ptr 1 0, .hol (.int IntKind.i64), .hol (.int IntKind.i64), .hol .bool], some [.onl 5 (Ty.int IntKind.u8) 514, .hol (.int IntKind.i64)]]⟩, [(.exit 0, ⟨[.any, .any, .any, .any, .any, .any, .any, .any, .any, .any, .any, .any, .any, .any, .any, .any, .any, .any, .any, .any, .any, .any, .any, .any, .any, .any, .any, .any], [some [.ptr 1 0, .hol (.int IntKind.i64), .hol (.int IntKind.i64), .hol .bool], some [.onl 5 (Ty.int IntKind.u8) 514, .hol (.int IntKind.i64)]]⟩)]⟩
-- FeNs_5 : loeNs_5.st.den → Tr (DenX loeNs_5.xs) | ((h6, (h7, (h8, ()))), ((h9, (h10, (h11, ()))), ((h12, (h13, ())), ())))
def FeNs_5 (d : loeNs_5.st.den) : Tr (DenX loeNs_5.xs) :=
  .ite (decide (d.1.2.2.1 = 0) && (decide (d.1.2.1 = (d.1.1.length : Int)) && (decide (d.2.2.1.2.1 = 130048) && decide (d.2.2.1.1.length ≤ 130048)))) (.ret (.ret ((), ((), encOutN d.2.1.1 (d.1.1.foldl (fun s x => spN8E x s) (d.2.1.2.1, (d.2.1.2.2.1, d.2.2.1.1))))))) .no
def lpeNs : Lp := lpT [(5, loHd loeNs_5 FeNs_5)]
def stepeNs_5 {R : Type} (h6 : List Int) (h7 : Int) (h8 : Int) (h9 : Int) (h10 : Int) (h11 : Bool) (h12 : List Int) (h13 : Int) (next : List Int → Int → Int → Int → Int → Bool → List Int → Int → Option R) (out : DenX loeNs_5.xs → Option R) : Option R := bif decide (h8 < h7) then bif decide (0 ≤ h8) && decide (h8 < (↑h6.length : Int)) then bif decide (h13 = 130048) && decide (h12.length ≤ 130048) then next (h6) (h7) (IntKind.i64.wrap (h8 + 1)) (h9) ((spPutE (h6.getD h8.toNat 0) 8 (h10, h11, h12)).fst) ((spPutE (h6.getD h8.toNat 0) 8 (h10, h11, h12)).snd.fst) ((spPutE (h6.getD h8.toNat 0) 8 (h10, h11, h12)).snd.snd) (130048) else none else none else out (.ret ((), ((), ((h9, (h10, (h11, ()))), ((h12, (h13, ())), ())))))
def iteNs_5 (n : Nat) (h6 : List Int) (h7 : Int) (h8 : Int) (h9 : Int) (h10 : Int) (h11 : Bool) (h12 : List Int) (h13 : Int) : Option (DenX loeNs_5.xs) := lpN tt hdeNs dr lpeNs 2 Go.Proofs.Tryz.f77 (topL Go.Proofs.Tryz.f77 0) n (loeNs_5.st.mk' ((h6, (h7, (h8, ()))), ((h9, (h10, (h11, ()))), ((h12, (h13, ())), ())))) (decX loeNs_5.xs)
theorem sleNs_5 (n : Nat) (h6 : List Int) (h7 : Int) (h8 : Int) (h9 : Int) (h10 : Int) (h11 : Bool) (h12 : List Int) (h13 : Int) : iteNs_5 (n + 1) h6 h7 h8 h9 h10 h11 h12 h13 = stepeNs_5 h6 h7 h8 h9 h10 h11 h12 h13 (iteNs_5 n) some := by kernel_rfl
theorem loopeNs {xs : List Int} (v : Int) (hl : xs.length ≤ maxLen) : ∀ (k i : Nat) (s : EnS), xs.length < i + k → i ≤ xs.length → s.2.2.length ≤ 130048 →
    iteNs_5 k xs (xs.length : Int) i v s.1 s.2.1 s.2.2 130048 = some (.ret ((), ((), encOutN v ((xs.drop i).foldl (fun s x => spN8E x s) s)))) := by
  intro k
  induction k with
  | zero => intro i s h; omega
  | succ k ih =>
    intro i s h1 h2 h3
    rw [sleNs_5]
    unfold stepeNs_5
    by_cases hi : i < xs.length
    · refine (bif_true (decide_eq_true (show (i : Int) < (xs.length : Int) by omega)) _ _).trans ?_
      refine (bif_true (by simpa using hi) _ _).trans ?_
      simp only [Int.toNat_natCast, getD_lt hi, wrap_succ hi hl]
      have g : (decide ((130048 : Int) = 130048) && decide (s.2.2.length ≤ 130048)) = true := by
        simpa using h3
      refine (bif_true g _ _).trans ?_
      rw [List.drop_eq_getElem_cons hi]
      exact ih (i + 1) (spN8E xs[i] s) (by omega) (by omega) (spN8E_le _ h3)
    · refine (bif_false (by simp; omega) _ _).trans ?_
      rw [List.drop_of_length_le (by omega)]
      rfl
def bodyeNs (a0 : List Int) (a1 : Int) (a2 : Int) (a3 : Bool) (a4 : List Int) (a5 : Int) : Option ioeNs.Res := bif decide (16 < (↑a0.length : Int)) then bif decide (a5 = 130048) && decide (a4.length ≤ 130048) then some (Out.ret ((), ((), a1, (spFail 9 (a2, a3, a4)).fst, (spFail 9 (a2, a3, a4)).snd.fst, ()), ((spFail 9 (a2, a3, a4)).snd.snd, 130048, ()), ())) else none else bif decide (a5 = 130048) && decide (a4.length ≤ 130048) then (FeNs_5 ((a0, ((↑a0.length : Int), (0, ()))), ((a1, ((spPutE (IntKind.i32.wrap (↑a0.length : Int)) 4 (a2, a3, a4)).fst, ((spPutE (IntKind.i32.wrap (↑a0.length : Int)) 4 (a2, a3, a4)).snd.fst, ()))), (((spPutE (IntKind.i32.wrap (↑a0.length : Int)) 4 (a2, a3, a4)).snd.snd, (130048, ())), ())))).run fun y => match y with | .ret ((), ((), (x27, x28, x29, ()), (x30, x31, ()), ())) => (some (Out.ret ((), ((), x27, x28, x29, ()), (x30, x31, ()), ()))) else none
theorem runeNs (a0 : List Int) (a1 : Int) (a2 : Int) (a3 : Bool) (a4 : List Int) (a5 : Int) : Io.run tt hdeNs dr lpeNs ioeNs Go.Proofs.Tryz.f77 (((), a0, (), ()), ((), a1, a2, a3, ()), (a4, a5, ()), ()) = bodyeNs a0 a1 a2 a3 a4 a5 := by kernel_rfl
theorem okeNs : HcOk prog 77 (ioHd ioeNs FeNs) := by
  refine fn_sound (n := 400) hm (cs := cseNs) (.cons okeFail (.cons okeI32 (.cons okeI64 .nil))) (lp := lpeNs) (fn := Go.Proofs.Tryz.f77) (by kernel_rfl) (by kernel_rfl) (by kernel_rfl) ioeNs (.step (h0 := loHd loeNs_5 FeNs_5) (by kernel_rfl) (loop_sound (n := 400) hm (cs := cseNs) (.cons okeFail (.cons okeI32 (.cons okeI64 .nil))) (lp := lpeNs) (fn := Go.Proofs.Tryz.f77) (.done (by kernel_rfl)) loeNs_5 FeNs_5 ?_) (.done (by kernel_rfl))) FeNs ?_
  · rintro ⟨⟨(xs : List Int), (n : Int), (i : Int), ⟨⟩⟩, ⟨⟨(v : Int), (e : Int), (f : Bool), ⟨⟩⟩, ⟨(b : List Int), (m : Int), ⟨⟩⟩, ⟨⟩⟩⟩ y hw hy
    obtain ⟨hg, hy⟩ := Tr.guard hy
    simp only [Bool.and_eq_true, decide_eq_true_eq] at hg
    obtain ⟨rfl, rfl, rfl, h4⟩ := hg
    have h4 : b.length ≤ 130048 := h4
    have hl : xs.length ≤ maxLen := hw.1.1.1
    refine ⟨xs.length + 1, (loopeNs v hl (xs.length + 1) 0 (e, (f, b)) (by omega) (by omega) h4).trans ?_⟩
    rw [← hy]; rfl
  · rintro ⟨⟨⟨⟩, (xs : List Int), ⟨⟩, ⟨⟩⟩, ⟨⟨⟩, (v : Int), (e : Int), (f : Bool), ⟨⟩⟩, ⟨(b : List Int), (m : Int), ⟨⟩⟩, ⟨⟩⟩ out hw ho
    obtain ⟨hg, ho⟩ := Tr.guard ho
    obtain ⟨rfl, hb⟩ := encOk_iff (v := v) (e := e) (f := f) hg
    cases ho
    refine (runeNs xs v e f b 130048).trans ?_
    unfold bodyeNs
    have g : (decide ((130048 : Int) = 130048) && decide (b.length ≤ 130048)) = true := by simpa using hb
    show _ = some (Out.ret ((), encOut v (spItems (spN8E) xs (e, f, b))))
    unfold spItems
    by_cases h : 16 < (xs.length : Int)
    · rw [if_pos h]
      refine (bif_true (decide_eq_true h) _ _).trans ?_
      exact bif_true g _ _
    · rw [if_neg h]
      refine (bif_false (decide_eq_false h) _ _).trans ?_
      refine (bif_true g _ _).trans ?_
      have hw32 : IntKind.i32.wrap (xs.length : Int) = xs.length := wrap_id (by simp [inR, IntKind.min, IntKind.max, IntKind.signed, IntKind.bits]; omega)
      rw [hw32]
      have c1 : (decide ((0 : Int) = 0) && (decide ((xs.length : Int) = (xs.length : Int)) && (decide ((130048 : Int) = 130048) && decide ((spPutE xs.length 4 (e, f, b)).2.2.length ≤ 130048)))) = true := by
        simpa using spPutE_le (s := (e, f, b)) _ 4 hb
      have e1 : FeNs_5 ((xs, ((xs.length : Int), (0, ()))), ((v, ((spPutE xs.length 4 (e, f, b)).1, ((spPutE xs.length 4 (e, f, b)).2.1, ()))), (((spPutE xs.length 4 (e, f, b)).2.2, (130048, ())), ()))) =
          .ite true (.ret (.ret ((), ((), encOutN v (xs.foldl (fun s x => spN8E x s) (spPutE xs.length 4 (e, f, b))))))) .no := congrArg (fun c => Tr.ite c _ _) c1
      rw [e1]
      rfl
abbrev iodNs : Io := ⟨[.ptr 0 0, .fnc 89 true [0]], oDec, [], [.dat (.sl 2 (.int .i64)) false false], none⟩
def FdNs (d : iodNs.In) : Tr iodNs.Res := .ite (spDok d.2.2.1.1 d.2.2.1.2.1) (.ret (.ret (((spNsD d.2.2.1.1 (decSt d.2)).1, ()), decOut d.2.1.2.1 d.2.2.1.1 (spNsD d.2.2.1.1 (decSt d.2)).2))) .no
abbrev csdNs : List (Nat × Hc) := [(81, ioHd iodI32 FdI32), (89, ioHd iodI64 FdI64)]
def hddNs : Hd := hdT csdNs
abbrev lodNs_10 : Lo := ⟨⟨[.one (.ptr 0 0), .one (.fnp 89 true [0]), .any, .any, .any, .one (.hol (.int IntKind.i32)), .one (.onl 2 (Ty.int IntKind.i64) 17), .one (.hol (.int IntKind.i32)), .any, .any, .any, .any, .any, .any, .any, .any, .any, .any, .any, .any, .any, .any, .any, .any, .any, .any, .any, .any, .any, .any, .any, .any, .any, .any, .any, .any, .any, .any, .any, .any, .any, .any, .any, .any, .any, .any], [some [.ptr 1 0, .hol (.int IntKind.i64), .hol (.int IntKind.i64)], some [.hol (.sl 5 (Ty.int IntKind.u8)), .hol (.int IntKind.i64)]]⟩, [(.exit 1, ⟨[.any, .any, .any, .any, .any, .any, .one (.onl 2 (Ty.int IntKind.i64) 17), .any, .any, .any, .any, .any, .any, .any, .any, .any, .any, .any, .any, .any, .any, .any, .any, .any, .any, .any, .any, .any, .any, .any, .any, .any, .any, .any, .any, .any, .any, .any, .any, .any, .any, .any, .any, .any, .any, .any], [some [.ptr 1 0, .hol (.int IntKind.i64), .hol (.int IntKind.i64)], some [.hol (.sl 5 (Ty.int IntKind.u8)), .hol (.int IntKind.i64)]]⟩)]⟩
-- FdNs_10 : lodNs_10.st.den → Tr (DenX lodNs_10.xs) | ((h4, (h5, (h6, ()))), ((h7, (h8, ())), ((h9, (h10, ())), ())))
def FdNs_10 (d : lodNs_10.st.den) : Tr (DenX lodNs_10.xs) :=
  .ite (decide (d.1.2.2.1 = 0) && (decide (d.1.2.1.length = 0) && (spDok d.2.2.1.1 d.2.2.1.2.1 && (decide (d.1.1 ≤ (16 : Int)) || decide (d.2.1.2.1 ≠ 0))))) (.ret (.ret ((), (((spRep (spDn .i64 8 d.2.2.1.1) d.1.1.toNat (d.2.1.2.1, d.2.2.1.2.1)).1, ()), decOutN d.2.1.1 d.2.2.1.1 (spRep (spDn .i64 8 d.2.2.1.1) d.1.1.toNat (d.2.1.2.1, d.2.2.1.2.1)).2)))) .no
def lpdNs : Lp := lpT [(10, loHd lodNs_10 FdNs_10)]
def stepdNs_10 {R : Type} (h4 : Int) (h5 : List Int) (h6 : Int) (h7 : Int) (h8 : Int) (h9 : List Int) (h10 : Int) (next : Int → List Int → Int → Int → Int → List Int → Int → Option R) (out : DenX lodNs_10.xs → Option R) : Option R := bif decide (h6 < h4) then bif h8 == 0 then bif spDok h9 h10 then bif decide (h5.length + 1 ≤ 4294967296) then next (h4) (h5 ++ [(spDn IntKind.i64 8 h9 (h8, h10)).fst]) (IntKind.i32.wrap (h6 + 1)) (h7) ((spDn IntKind.i64 8 h9 (h8, h10)).snd.fst) (h9) ((spDn IntKind.i64 8 h9 (h8, h10)).snd.snd) else none else none else out (.ret ((), ((h5, ()), ((h7, (h8, ())), ((h9, (h10, ())), ()))))) else out (.ret ((), ((h5, ()), ((h7, (h8, ())), ((h9, (h10, ())), ())))))
def itdNs_10 (n : Nat) (h4 : Int) (h5 : List Int) (h6 : Int) (h7 : Int) (h8 : Int) (h9 : List Int) (h10 : Int) : Option (DenX lodNs_10.xs) := lpN tt hddNs dr lpdNs 2 Go.Proofs.Tryz.f88 (topL Go.Proofs.Tryz.f88 0) n (lodNs_10.st.mk' ((h4, (h5, (h6, ()))), ((h7, (h8, ())), ((h9, (h10, ())), ())))) (decX lodNs_10.xs)
theorem sldNs_10 (n : Nat) (h4 : Int) (h5 : List Int) (h6 : Int) (h7 : Int) (h8 : Int) (h9 : List Int) (h10 : Int) : itdNs_10 (n + 1) h4 h5 h6 h7 h8 h9 h10 = stepdNs_10 h4 h5 h6 h7 h8 h9 h10 (itdNs_10 n) some := by kernel_rfl
theorem loopdNs (n v : Int) (b : List Int) : ∀ (k j : Nat) (xs : List Int) (s : DeS), n.toNat < j + k → j ≤ n.toNat → xs.length = j → spDok b s.2 = true → (s.1 = 0 → n ≤ 16) →
    itdNs_10 k n xs j v s.1 b s.2 = some (.ret ((), ((xs ++ (spRep (spDn .i64 8 b) (n.toNat - j) s).1, ()), decOutN v b (spRep (spDn .i64 8 b) (n.toNat - j) s).2))) := by
  intro k
  induction k with
  | zero => intro j xs s h; omega
  | succ k ih =>
    intro j xs s h1 h2 h3 h4 h5
    rw [sldNs_10]
    unfold stepdNs_10
    by_cases hj : (j : Int) < n
    · refine (bif_true (by simpa using hj) _ _).trans ?_
      obtain ⟨m, hm⟩ : ∃ m, n.toNat - j = m + 1 := ⟨n.toNat - j - 1, by omega⟩
      rw [hm]
      by_cases he : s.1 = 0
      · refine (bif_true (by simpa using he) _ _).trans ?_
        have hn := h5 he
        refine (bif_true h4 _ _).trans ?_
        refine (bif_true (decide_eq_true (show xs.length + 1 ≤ 4294967296 by omega)) _ _).trans ?_
        have hw : IntKind.i32.wrap ((j : Int) + 1) = ((j + 1 : Nat) : Int) := wrap_id (by simp [inR, IntKind.min, IntKind.max, IntKind.signed, IntKind.bits]; omega)
        rw [hw]
        refine (ih (j + 1) (xs ++ [(spDn .i64 8 b s).1]) (spDn .i64 8 b s).2 (by omega) (by omega) (by simp [h3]) (spDn_ok .i64 8 h4) (fun _ => hn)).trans ?_
        rw [show n.toNat - (j + 1) = m by omega, spRep, if_pos he]
        simp
      · refine (bif_false (by simpa using he) _ _).trans ?_
        rw [spRep, if_neg he]
        simp
    · refine (bif_false (by simpa using hj) _ _).trans ?_
      rw [show n.toNat - j = 0 by omega, spRep]
      simp
def bodydNs (a0 : Int) (a1 : Int) (a2 : List Int) (a3 : Int) : Option iodNs.Res := bif spDok a2 a3 then bif (spDn IntKind.i32 4 a2 (a1, a3)).snd.fst != 0 then (FdNs_10 (((spDn IntKind.i32 4 a2 (a1, a3)).fst, ([], (0, ()))), ((a0, ((spDn IntKind.i32 4 a2 (a1, a3)).snd.fst, ())), ((a2, ((spDn IntKind.i32 4 a2 (a1, a3)).snd.snd, ())), ())))).run fun y => match y with | .ret ((), ((x28, ()), (x29, x30, ()), (x31, x32, ()), ())) => (some (Out.ret ((x28, ()), ((), x29, x30, ()), (x31, x32, ()), ()))) else bif decide ((spDn IntKind.i32 4 a2 (a1, a3)).fst < 0) then (FdNs_10 (((spDn IntKind.i32 4 a2 (a1, a3)).fst, ([], (0, ()))), ((a0, (5, ())), ((a2, ((spDn IntKind.i32 4 a2 (a1, a3)).snd.snd, ())), ())))).run fun y => match y with | .ret ((), ((x40, ()), (x41, x42, ()), (x43, x44, ()), ())) => (some (Out.ret ((x40, ()), ((), x41, x42, ()), (x43, x44, ()), ()))) else bif decide (16 < (spDn IntKind.i32 4 a2 (a1, a3)).fst) then (FdNs_10 (((spDn IntKind.i32 4 a2 (a1, a3)).fst, ([], (0, ()))), ((a0, (9, ())), ((a2, ((spDn IntKind.i32 4 a2 (a1, a3)).snd.snd, ())), ())))).run fun y => match y with | .ret ((), ((x52, ()), (x53, x54, ()), (x55, x56, ()), ())) => (some (Out.ret ((x52, ()), ((), x53, x54, ()), (x55, x56, ()), ()))) else (FdNs_10 (((spDn IntKind.i32 4 a2 (a1, a3)).fst, ([], (0, ()))), ((a0, ((spDn IntKind.i32 4 a2 (a1, a3)).snd.fst, ())), ((a2, ((spDn IntKind.i32 4 a2 (a1, a3)).snd.snd, ())), ())))).run fun y => match y with | .ret ((), ((x64, ()), (x65, x66, ()), (x67, x68, ()), ())) => (some (Out.ret ((x64, ()), ((), x65, x66, ()), (x67, x68, ()), ()))) else none
theorem rundNs (a0 : Int) (a1 : Int) (a2 : List Int) (a3 : Int) : Io.run tt hddNs dr lpdNs iodNs Go.Proofs.Tryz.f88 (((), (), ()), ((), a0, a1, ()), (a2, a3, ()), ()) = bodydNs a0 a1 a2 a3 := by kernel_rfl
theorem okdNs : HcOk prog 88 (ioHd iodNs FdNs) := by
  refine fn_sound (n := 400) hm (cs := csdNs) (.cons okdI32 (.cons okdI64 .nil)) (lp := lpdNs) (fn := Go.Proofs.Tryz.f88) (by kernel_rfl) (by kernel_rfl) (by kernel_rfl) iodNs (.step (h0 := loHd lodNs_10 FdNs_10) (by kernel_rfl) (loop_sound (n := 400) hm (cs := csdNs) (.cons okdI32 (.cons okdI64 .nil)) (lp := lpdNs) (fn := Go.Proofs.Tryz.f88) (.done (by kernel_rfl)) lodNs_10 FdNs_10 ?_) (.done (by kernel_rfl))) FdNs ?_
  · rintro ⟨⟨(n : Int), (xs : List Int), (i : Int), ⟨⟩⟩, ⟨⟨(v : Int), (e : Int), ⟨⟩⟩, ⟨(b : List Int), (p : Int), ⟨⟩⟩, ⟨⟩⟩⟩ y hw hy
    obtain ⟨hg, hy⟩ := Tr.guard hy
    simp only [Bool.and_eq_true, decide_eq_true_eq, Bool.or_eq_true] at hg
    obtain ⟨h1, h2, h3, h4⟩ := hg
    have h1 : i = 0 := h1
    have h2 : xs = [] := List.eq_nil_of_length_eq_zero h2
    have h3 : spDok b p = true := h3
    have h4 : n ≤ 16 ∨ e ≠ 0 := h4
    subst h1
    subst h2
    refine ⟨n.toNat + 1, (loopdNs n v b (n.toNat + 1) 0 [] (e, p) (by omega) (by omega) rfl h3 (fun he => h4.resolve_right (fun h => h he))).trans ?_⟩
    rw [← hy]; rfl
  · rintro ⟨⟨⟨⟩, ⟨⟩, ⟨⟩⟩, ⟨⟨⟩, (v : Int), (e : Int), ⟨⟩⟩, ⟨(b : List Int), (p : Int), ⟨⟩⟩, ⟨⟩⟩ out hw ho
    obtain ⟨hg, ho⟩ := Tr.guard ho
    have hg : spDok b p = true := hg
    cases ho
    refine (rundNs v e b p).trans ?_
    unfold bodydNs
    show _ = some (Out.ret (((spNsD b (e, p)).1, ()), decOut v b (spNsD b (e, p)).2))
    unfold spNsD spList
    refine (bif_true hg _ _).trans ?_
    have hr : spDok b (spDn .i32 4 b (e, p)).2.2 = true := spDn_ok .i32 4 (s := (e, p)) hg
    generalize spDn .i32 4 b (e, p) = r at hr ⊢
    obtain ⟨n, e1, q⟩ := r
    have hr : spDok b q = true := hr
    have key : ∀ e' : Int, (e' = 0 → n ≤ 16) → FdNs_10 ((n, ([], (0, ()))), ((v, (e', ())), ((b, (q, ())), ()))) = .ite true (.ret (.ret ((), (((spRep (spDn .i64 8 b) n.toNat (e', q)).1, ()), decOutN v b (spRep (spDn .i64 8 b) n.toNat (e', q)).2)))) .no := by
      intro e' he
      refine congrArg (fun c => Tr.ite c _ _) ?_
      show (decide ((0 : Int) = 0) && (decide (([] : List Int).length = 0) && (spDok b q && (decide (n ≤ 16) || decide (e' ≠ 0))))) = true
      rw [hr]
      by_cases h : e' = 0
      · simp [he h]
      · simp [h]
    unfold spLen
    show (bif e1 != 0 then _ else _) = _
    by_cases h1 : e1 = 0
    · refine (bif_false (by simpa using h1) _ _).trans ?_
      show (bif decide (n < 0) then _ else _) = _
      rw [if_pos h1]
      by_cases h2 : n < 0
      · refine (bif_true (by simpa using h2) _ _).trans ?_
        show (FdNs_10 ((n, ([], (0, ()))), ((v, (5, ())), ((b, (q, ())), ())))).run _ = _
        rw [key 5 (by omega), if_pos h2]
        rfl
      · refine (bif_false (by simpa using h2) _ _).trans ?_
        show (bif decide (16 < n) then _ else _) = _
        rw [if_neg h2]
        by_cases h3 : 16 < n
        · refine (bif_true (by simpa using h3) _ _).trans ?_
          show (FdNs_10 ((n, ([], (0, ()))), ((v, (9, ())), ((b, (q, ())), ())))).run _ = _
          rw [key 9 (by omega), if_pos h3]
          rfl
        · refine (bif_false (by simpa using h3) _ _).trans ?_
          show (FdNs_10 ((n, ([], (0, ()))), ((v, (e1, ())), ((b, (q, ())), ())))).run _ = _
          rw [key e1 (by omega), if_neg h3]
          rfl
    · refine (bif_true (by simpa using h1) _ _).trans ?_
      show (FdNs_10 ((n, ([], (0, ()))), ((v, (e1, ())), ((b, (q, ())), ())))).run _ = _
      rw [key e1 (fun h => absurd h h1), if_neg h1]
      rfl
end
end Go.Proofs.YtjpeefegeobgfaaGreat.Sym
