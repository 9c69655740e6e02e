/- fetch.EncodeRep: what it writes. -/
import Derived.Test.YtjpeefegeobgfaaGreatQ7

namespace Go.Proofs.YtjpeefegeobgfaaGreat.Sym
open Go
set_option linter.unusedSimpArgs false
set_option linter.unusedVariables false
noncomputable section
abbrev tfrPart : Ty := .prod (.int .i32) (.prod (.int .i16) (.prod (.int .i64) (.prod (.int .i64) (.prod (.int .i64) (.prod tBlobT .unit)))))
abbrev tfrTopic : Ty := .prod .str (.prod (.sl 173 tfrPart) .unit)
abbrev tfrMsg : Ty := .prod (.int .i32) (.prod (.sl 169 tfrTopic) .unit)
def spfrPE (v : Int) (p : tfrPart.den) (s : EnS) : EnS := spBlobE p.2.2.2.2.2.1 (spHasE v 3 3 p.2.2.2.2.1 8 (spHasE v 2 3 p.2.2.2.1 8 (spPutE p.2.2.1 8 (spPutE p.2.1 2 (spPutE p.1 4 (s))))))
theorem spfrPE_le {s : EnS} (v : Int) (p : tfrPart.den) (h : s.2.2.length ≤ 130048) : (spfrPE v p s).2.2.length ≤ 130048 :=
  spBlobE_le _ (spHasE_le _ _ _ _ _ (spHasE_le _ _ _ _ _ (spPutE_le _ _ (spPutE_le _ _ (spPutE_le _ _ (h))))))
def frOk (p : tfrPart.den) : Bool := decide (p.2.2.2.2.2.1.2.1.length ≤ 2147483647)
def spfrOks (xs : List tfrPart.den) : Bool := xs.all frOk
abbrev iofrPart : Io := ⟨[.dat tfrPart true false, .ptr 0 0], oEnc1, [], [], none⟩
def FfrPart (d : iofrPart.In) : Tr iofrPart.Res := .ite (encOk d.2.2 && frOk d.1.1) (.ret (.ret ((), encOut1 d.2.2.1.2.1 (spfrPE d.2.2.1.2.1 d.1.1 (encSt d.2.2))))) .no
abbrev csfrPart : List (Nat × Hc) := [(108, ioHd ioeBlob FeBlob), (76, ioHd ioeI16 FeI16), (56, ioHd ioeI32 FeI32), (64, ioHd ioeI64 FeI64), (57, ioHd ioeHas FeHas)]
def hdfrPart : Hd := hdT csfrPart
def lpfrPart : Lp := lpT []
def bodyfrPart (a0 : Int) (a1 : Int) (a2 : Int) (a3 : Int) (a4 : Int) (a5 : Bool) (a6 : List Int) (a7 : Int) (a8 : Int) (a9 : Bool) (a10 : List Int) (a11 : Int) : Option iofrPart.Res := bif decide (a11 = 130048) && decide (a10.length ≤ 130048) then bif decide (130048 = 130048) && decide ((spPutE a0 4 (a8, a9, a10)).snd.snd.length ≤ 130048) then bif decide (130048 = 130048) && decide ((spPutE a1 2 (spPutE a0 4 (a8, a9, a10))).snd.snd.length ≤ 130048) then bif decide (130048 = 130048) && decide ((spPutE a2 8 (spPutE a1 2 (spPutE a0 4 (a8, a9, a10)))).snd.snd.length ≤ 130048) then bif decide (2 ≤ a7) && decide (a7 ≤ 3) then bif decide (130048 = 130048) && decide ((spPutE a2 8 (spPutE a1 2 (spPutE a0 4 (a8, a9, a10)))).snd.snd.length ≤ 130048) then bif decide (130048 = 130048) && decide ((spPutE a3 8 (spPutE a2 8 (spPutE a1 2 (spPutE a0 4 (a8, a9, a10))))).snd.snd.length ≤ 130048) then bif decide (3 ≤ a7) && decide (a7 ≤ 3) then bif decide (130048 = 130048) && decide ((spPutE a3 8 (spPutE a2 8 (spPutE a1 2 (spPutE a0 4 (a8, a9, a10))))).snd.snd.length ≤ 130048) then bif decide (130048 = 130048) && decide ((spPutE a4 8 (spPutE a3 8 (spPutE a2 8 (spPutE a1 2 (spPutE a0 4 (a8, a9, a10)))))).snd.snd.length ≤ 130048) && decide (a6.length ≤ 2147483647) then some (Out.ret ((), ((), ()), ((), a7, (spBlobE (a5, a6, ()) (spPutE a4 8 (spPutE a3 8 (spPutE a2 8 (spPutE a1 2 (spPutE a0 4 (a8, a9, a10))))))).fst, (spBlobE (a5, a6, ()) (spPutE a4 8 (spPutE a3 8 (spPutE a2 8 (spPutE a1 2 (spPutE a0 4 (a8, a9, a10))))))).snd.fst, ()), ((spBlobE (a5, a6, ()) (spPutE a4 8 (spPutE a3 8 (spPutE a2 8 (spPutE a1 2 (spPutE a0 4 (a8, a9, a10))))))).snd.snd, 130048, ()), ())) else none else none else bif decide (130048 = 130048) && decide ((spPutE a3 8 (spPutE a2 8 (spPutE a1 2 (spPutE a0 4 (a8, a9, a10))))).snd.snd.length ≤ 130048) && decide (a6.length ≤ 2147483647) then some (Out.ret ((), ((), ()), ((), a7, (spBlobE (a5, a6, ()) (spPutE a3 8 (spPutE a2 8 (spPutE a1 2 (spPutE a0 4 (a8, a9, a10)))))).fst, (spBlobE (a5, a6, ()) (spPutE a3 8 (spPutE a2 8 (spPutE a1 2 (spPutE a0 4 (a8, a9, a10)))))).snd.fst, ()), ((spBlobE (a5, a6, ()) (spPutE a3 8 (spPutE a2 8 (spPutE a1 2 (spPutE a0 4 (a8, a9, a10)))))).snd.snd, 130048, ()), ())) else none else none else none else bif decide (130048 = 130048) && decide ((spPutE a2 8 (spPutE a1 2 (spPutE a0 4 (a8, a9, a10)))).snd.snd.length ≤ 130048) then bif decide (3 ≤ a7) && decide (a7 ≤ 3) then bif decide (130048 = 130048) && decide ((spPutE a2 8 (spPutE a1 2 (spPutE a0 4 (a8, a9, a10)))).snd.snd.length ≤ 130048) then bif decide (130048 = 130048) && decide ((spPutE a4 8 (spPutE a2 8 (spPutE a1 2 (spPutE a0 4 (a8, a9, a10))))).snd.snd.length ≤ 130048) && decide (a6.length ≤ 2147483647) then some (Out.ret ((), ((), ()), ((), a7, (spBlobE (a5, a6, ()) (spPutE a4 8 (spPutE a2 8 (spPutE a1 2 (spPutE a0 4 (a8, a9, a10)))))).fst, (spBlobE (a5, a6, ()) (spPutE a4 8 (spPutE a2 8 (spPutE a1 2 (spPutE a0 4 (a8, a9, a10)))))).snd.fst, ()), ((spBlobE (a5, a6, ()) (spPutE a4 8 (spPutE a2 8 (spPutE a1 2 (spPutE a0 4 (a8, a9, a10)))))).snd.snd, 130048, ()), ())) else none else none else bif decide (130048 = 130048) && decide ((spPutE a2 8 (spPutE a1 2 (spPutE a0 4 (a8, a9, a10)))).snd.snd.length ≤ 130048) && decide (a6.length ≤ 2147483647) then some (Out.ret ((), ((), ()), ((), a7, (spBlobE (a5, a6, ()) (spPutE a2 8 (spPutE a1 2 (spPutE a0 4 (a8, a9, a10))))).fst, (spBlobE (a5, a6, ()) (spPutE a2 8 (spPutE a1 2 (spPutE a0 4 (a8, a9, a10))))).snd.fst, ()), ((spBlobE (a5, a6, ()) (spPutE a2 8 (spPutE a1 2 (spPutE a0 4 (a8, a9, a10))))).snd.snd, 130048, ()), ())) else none else none else none else none else none else none
theorem runfrPart (a0 : Int) (a1 : Int) (a2 : Int) (a3 : Int) (a4 : Int) (a5 : Bool) (a6 : List Int) (a7 : Int) (a8 : Int) (a9 : Bool) (a10 : List Int) (a11 : Int) : Io.run tt hdfrPart dr lpfrPart iofrPart Go.Proofs.Tryz.f107 (((a0, a1, a2, a3, a4, (a5, a6, ()), ()), (), ()), ((), ()), ((), a7, a8, a9, ()), (a10, a11, ()), ()) = bodyfrPart a0 a1 a2 a3 a4 a5 a6 a7 a8 a9 a10 a11 := by kernel_rfl
theorem okfrPart : HcOk prog 107 (ioHd iofrPart FfrPart) := by
  refine fn_sound (n := 400) hm (cs := csfrPart) (.cons okeBlob (.cons okeI16 (.cons okeI32 (.cons okeI64 (.cons okeHas .nil))))) (lp := lpfrPart) (fn := Go.Proofs.Tryz.f107) (by kernel_rfl) (by kernel_rfl) (by kernel_rfl) iofrPart (.done (by kernel_rfl)) FfrPart ?_
  rintro ⟨⟨⟨(ix : Int), (cd : Int), (hi : Int), (st : Int), (sa : Int), ⟨(rcz : Bool), (rcx : List Int), ⟨⟩⟩, ⟨⟩⟩, ⟨⟩, ⟨⟩⟩, ⟨⟨⟩, ⟨⟩⟩, ⟨⟨⟩, (v : Int), (e : Int), (f : Bool), ⟨⟩⟩, ⟨(b : List Int), (m : Int), ⟨⟩⟩, ⟨⟩⟩ out hw ho
  obtain ⟨hg, ho⟩ := Tr.guard ho
  obtain ⟨hg, hok⟩ := Bool.and_eq_true_iff.1 hg
  obtain ⟨rfl, hb⟩ := encOk_iff (v := v) (e := e) (f := f) hg
  have hbrcx : decide ((rcz, (rcx, ())).2.1.length ≤ 2147483647) = true := hok
  cases ho
  refine (runfrPart ix cd hi st sa rcz rcx v e f b 130048).trans ?_
  unfold bodyfrPart
  have hg : ∀ s : EnS, s.2.2.length ≤ 130048 → (decide ((130048 : Int) = 130048) && decide (s.2.2.length ≤ 130048)) = true := fun s h => by simpa using h
  have hb : (e, (f, b)).2.2.length ≤ 130048 := hb
  show _ = some (Out.ret ((), encOut1 v (spfrPE v (ix, (cd, (hi, (st, (sa, ((rcz, (rcx, ())), ())))))) (e, f, b))))
  refine (bif_true (hg _ hb) _ _).trans ?_
  have l0_1 := spPutE_le ix 4 hb
  refine (bif_true (hg _ l0_1) _ _).trans ?_
  have l1_1 := spPutE_le cd 2 l0_1
  refine (bif_true (hg _ l1_1) _ _).trans ?_
  have l2_1 := spPutE_le hi 8 l1_1
  refine (bif_true (hg _ l2_1) _ _).trans ?_
  by_cases h3_1 : 2 ≤ v ∧ v ≤ 3
  · refine (bif_true (by simpa using h3_1) _ _).trans ?_
    refine (bif_true (hg _ l2_1) _ _).trans ?_
    have l3_1 := spPutE_le st 8 l2_1
    refine (bif_true (hg _ l3_1) _ _).trans ?_
    by_cases h4_2 : 3 ≤ v ∧ v ≤ 3
    · refine (bif_true (by simpa using h4_2) _ _).trans ?_
      refine (bif_true (hg _ l3_1) _ _).trans ?_
      have l4_2 := spPutE_le sa 8 l3_1
      refine (bif_true (Bool.and_eq_true_iff.2 ⟨hg _ l4_2, hbrcx⟩) _ _).trans ?_
      have l5_3 := spBlobE_le (rcz, (rcx, ())) l4_2
      simp only [spfrPE, spHasE_in h3_1, spHasE_in h4_2]
    · refine (bif_false (Bool.eq_false_iff.2 fun h' => h4_2 (by simpa using h')) _ _).trans ?_
      refine (bif_true (Bool.and_eq_true_iff.2 ⟨hg _ l3_1, hbrcx⟩) _ _).trans ?_
      have l5_3 := spBlobE_le (rcz, (rcx, ())) l3_1
      simp only [spfrPE, spHasE_in h3_1, spHasE_out h4_2]
  · refine (bif_false (Bool.eq_false_iff.2 fun h' => h3_1 (by simpa using h')) _ _).trans ?_
    refine (bif_true (hg _ l2_1) _ _).trans ?_
    by_cases h4_2 : 3 ≤ v ∧ v ≤ 3
    · refine (bif_true (by simpa using h4_2) _ _).trans ?_
      refine (bif_true (hg _ l2_1) _ _).trans ?_
      have l4_2 := spPutE_le sa 8 l2_1
      refine (bif_true (Bool.and_eq_true_iff.2 ⟨hg _ l4_2, hbrcx⟩) _ _).trans ?_
      have l5_3 := spBlobE_le (rcz, (rcx, ())) l4_2
      simp only [spfrPE, spHasE_out h3_1, spHasE_in h4_2]
    · refine (bif_false (Bool.eq_false_iff.2 fun h' => h4_2 (by simpa using h')) _ _).trans ?_
      refine (bif_true (Bool.and_eq_true_iff.2 ⟨hg _ l2_1, hbrcx⟩) _ _).trans ?_
      have l5_3 := spBlobE_le (rcz, (rcx, ())) l2_1
      simp only [spfrPE, spHasE_out h3_1, spHasE_out h4_2]
def spfrPsE (v : Int) (xs : List tfrPart.den) (s : EnS) : EnS := spItems (spfrPE v) xs s
abbrev iofrParts : Io := ⟨[.ptr 0 0, .dat (.sl 173 tfrPart) false false, .fnc 107 false [2]], oEncC, [], [], none⟩
def FfrParts (d : iofrParts.In) : Tr iofrParts.Res := .ite (encOkC d.2 && spfrOks d.1.2.1) (.ret (.ret ((), encOutC d.2.1.2.1 (spfrPsE d.2.1.2.1 d.1.2.1 (encStC d.2))))) .no
abbrev csfrParts : List (Nat × Hc) := [(137, ioHd ioeFail FeFail), (56, ioHd ioeI32 FeI32), (107, ioHd iofrPart FfrPart)]
def hdfrParts : Hd := hdT csfrParts
abbrev lofrParts_5 : Lo := ⟨⟨[.any, .any, .one (.fnp 107 false [2]), .any, .any, .any, .any, .any, .any, .any, .any, .any, .any, .any, .any, .any, .any, .any, .one (.hol (.sl 173 tfrPart)), .one (.hol (.int IntKind.i64)), .one (.hol (.int IntKind.i64)), .any, .any, .any, .any, .any, .any, .any], [some [.ptr 1 0, .hol (.int IntKind.i64), .hol (.int IntKind.i64), .hol .bool], some [.onl 5 (Ty.int IntKind.u8) 514, .hol (.int IntKind.i64)], some [.ptr 0 0]]⟩, [(.exit 0, ⟨[.any, .any, .any, .any, .any, .any, .any, .any, .any, .any, .any, .any, .any, .any, .any, .any, .any, .any, .any, .any, .any, .any, .any, .any, .any, .any, .any, .any], [some [.ptr 1 0, .hol (.int IntKind.i64), .hol (.int IntKind.i64), .hol .bool], some [.onl 5 (Ty.int IntKind.u8) 514, .hol (.int IntKind.i64)], some [.ptr 0 0]]⟩)]⟩
-- FfrParts_5 : lofrParts_5.st.den → Tr (DenX lofrParts_5.xs) | ((h6, (h7, (h8, ()))), ((h9, (h10, (h11, ()))), ((h12, (h13, ())), ((), ()))))
def FfrParts_5 (d : lofrParts_5.st.den) : Tr (DenX lofrParts_5.xs) :=
  .ite (decide (d.1.2.2.1 = 0) && (decide (d.1.2.1 = (d.1.1.length : Int)) && (decide (d.2.2.1.2.1 = 130048) && (decide (d.2.2.1.1.length ≤ 130048) && spfrOks d.1.1)))) (.ret (.ret ((), ((), encOutB d.2.1.1 (d.1.1.foldl (fun s x => spfrPE d.2.1.1 x s) (d.2.1.2.1, (d.2.1.2.2.1, d.2.2.1.1))))))) .no
def lpfrParts : Lp := lpT [(5, loHd lofrParts_5 FfrParts_5)]
def stepfrParts_5 {R : Type} (h6 : List tfrPart.den) (h7 : Int) (h8 : Int) (h9 : Int) (h10 : Int) (h11 : Bool) (h12 : List Int) (h13 : Int) (next : List tfrPart.den → Int → Int → Int → Int → Bool → List Int → Int → Option R) (out : DenX lofrParts_5.xs → Option R) : Option R := bif decide (h8 < h7) then bif decide (0 ≤ h8) && decide (h8 < (↑h6.length : Int)) then bif decide (h13 = 130048) && decide (h12.length ≤ 130048) && decide (List.length (h6.getD h8.toNat (0, 0, 0, 0, 0, (false, [], ()), ())).snd.snd.snd.snd.snd.fst.snd.fst ≤ 2147483647) then next (h6) (h7) (IntKind.i64.wrap (h8 + 1)) (h9) ((spfrPE h9 (h6.getD h8.toNat (0, 0, 0, 0, 0, (false, [], ()), ())) (h10, h11, h12)).fst) ((spfrPE h9 (h6.getD h8.toNat (0, 0, 0, 0, 0, (false, [], ()), ())) (h10, h11, h12)).snd.fst) ((spfrPE h9 (h6.getD h8.toNat (0, 0, 0, 0, 0, (false, [], ()), ())) (h10, h11, h12)).snd.snd) (130048) else none else none else out (.ret ((), ((), ((h9, (h10, (h11, ()))), ((h12, (h13, ())), ((), ()))))))
def itfrParts_5 (n : Nat) (h6 : List tfrPart.den) (h7 : Int) (h8 : Int) (h9 : Int) (h10 : Int) (h11 : Bool) (h12 : List Int) (h13 : Int) : Option (DenX lofrParts_5.xs) := lpN tt hdfrParts dr lpfrParts 3 Go.Proofs.Tryz.f106 (topL Go.Proofs.Tryz.f106 0) n (lofrParts_5.st.mk' ((h6, (h7, (h8, ()))), ((h9, (h10, (h11, ()))), ((h12, (h13, ())), ((), ()))))) (decX lofrParts_5.xs)
theorem slfrParts_5 (n : Nat) (h6 : List tfrPart.den) (h7 : Int) (h8 : Int) (h9 : Int) (h10 : Int) (h11 : Bool) (h12 : List Int) (h13 : Int) : itfrParts_5 (n + 1) h6 h7 h8 h9 h10 h11 h12 h13 = stepfrParts_5 h6 h7 h8 h9 h10 h11 h12 h13 (itfrParts_5 n) some := by kernel_rfl
theorem loopfrParts {xs : List tfrPart.den} (v : Int) (hl : xs.length ≤ maxLen) (hok : ∀ x ∈ xs, frOk x = true) : ∀ (k i : Nat) (s : EnS), xs.length < i + k → i ≤ xs.length → s.2.2.length ≤ 130048 →
    itfrParts_5 k xs (xs.length : Int) i v s.1 s.2.1 s.2.2 130048 = some (.ret ((), ((), encOutB v ((xs.drop i).foldl (fun s x => spfrPE v x s) s)))) := by
  intro k
  induction k with
  | zero => intro i s h; omega
  | succ k ih =>
    intro i s h1 h2 h3
    rw [slfrParts_5]
    unfold stepfrParts_5
    by_cases hi : i < xs.length
    · refine (bif_true (decide_eq_true (show (i : Int) < (xs.length : Int) by omega)) _ _).trans ?_
      refine (bif_true (by simpa using hi) _ _).trans ?_
      simp only [Int.toNat_natCast, getD_lt hi, wrap_succ hi hl]
      have g : (decide ((130048 : Int) = 130048) && decide (s.2.2.length ≤ 130048) && frOk xs[i]) = true := by
        rw [hok _ (List.getElem_mem hi)]; simpa using h3
      refine (bif_true g _ _).trans ?_
      rw [List.drop_eq_getElem_cons hi]
      exact ih (i + 1) (spfrPE v xs[i] s) (by omega) (by omega) (spfrPE_le v _ h3)
    · refine (bif_false (by simp; omega) _ _).trans ?_
      rw [List.drop_of_length_le (by omega)]
      rfl
def bodyfrParts (a0 : List tfrPart.den) (a1 : Int) (a2 : Int) (a3 : Bool) (a4 : List Int) (a5 : Int) : Option iofrParts.Res := bif decide (16 < (↑a0.length : Int)) then bif decide (a5 = 130048) && decide (a4.length ≤ 130048) then some (Out.ret ((), ((), a1, (spFail 9 (a2, a3, a4)).fst, (spFail 9 (a2, a3, a4)).snd.fst, ()), ((spFail 9 (a2, a3, a4)).snd.snd, 130048, ()), ((), ()), ())) else none else bif decide (a5 = 130048) && decide (a4.length ≤ 130048) then (FfrParts_5 ((a0, ((↑a0.length : Int), (0, ()))), ((a1, ((spPutE (IntKind.i32.wrap (↑a0.length : Int)) 4 (a2, a3, a4)).fst, ((spPutE (IntKind.i32.wrap (↑a0.length : Int)) 4 (a2, a3, a4)).snd.fst, ()))), (((spPutE (IntKind.i32.wrap (↑a0.length : Int)) 4 (a2, a3, a4)).snd.snd, (130048, ())), ((), ()))))).run fun y => match y with | .ret ((), ((), (x27, x28, x29, ()), (x30, x31, ()), (), ())) => (some (Out.ret ((), ((), x27, x28, x29, ()), (x30, x31, ()), ((), ()), ()))) else none
theorem runfrParts (a0 : List tfrPart.den) (a1 : Int) (a2 : Int) (a3 : Bool) (a4 : List Int) (a5 : Int) : Io.run tt hdfrParts dr lpfrParts iofrParts Go.Proofs.Tryz.f106 (((), a0, (), ()), ((), a1, a2, a3, ()), (a4, a5, ()), ((), ()), ()) = bodyfrParts a0 a1 a2 a3 a4 a5 := by kernel_rfl
theorem okfrParts : HcOk prog 106 (ioHd iofrParts FfrParts) := by
  refine fn_sound (n := 400) hm (cs := csfrParts) (.cons okeFail (.cons okeI32 (.cons okfrPart .nil))) (lp := lpfrParts) (fn := Go.Proofs.Tryz.f106) (by kernel_rfl) (by kernel_rfl) (by kernel_rfl) iofrParts (.step (h0 := loHd lofrParts_5 FfrParts_5) (by kernel_rfl) (loop_sound (n := 400) hm (cs := csfrParts) (.cons okeFail (.cons okeI32 (.cons okfrPart .nil))) (lp := lpfrParts) (fn := Go.Proofs.Tryz.f106) (.done (by kernel_rfl)) lofrParts_5 FfrParts_5 ?_) (.done (by kernel_rfl))) FfrParts ?_
  · rintro ⟨⟨(xs : List tfrPart.den), (n : Int), (i : Int), ⟨⟩⟩, ⟨⟨(v : Int), (e : Int), (f : Bool), ⟨⟩⟩, ⟨(b : List Int), (m : Int), ⟨⟩⟩, ⟨⟨⟩, ⟨⟩⟩⟩⟩ y hw hy
    obtain ⟨hg, hy⟩ := Tr.guard hy
    simp only [Bool.and_eq_true, decide_eq_true_eq] at hg
    obtain ⟨rfl, rfl, rfl, h4, h5⟩ := hg
    have h5 : ∀ x ∈ xs, frOk x = true := List.all_eq_true.1 h5
    have h4 : b.length ≤ 130048 := h4
    have hl : xs.length ≤ maxLen := hw.1.1.1
    refine ⟨xs.length + 1, (loopfrParts v hl h5 (xs.length + 1) 0 (e, (f, b)) (by omega) (by omega) h4).trans ?_⟩
    rw [← hy]; rfl
  · rintro ⟨⟨⟨⟩, (xs : List tfrPart.den), ⟨⟩, ⟨⟩⟩, ⟨⟨⟩, (v : Int), (e : Int), (f : Bool), ⟨⟩⟩, ⟨(b : List Int), (m : Int), ⟨⟩⟩, ⟨⟨⟩, ⟨⟩⟩, ⟨⟩⟩ out hw ho
    obtain ⟨hg, ho⟩ := Tr.guard ho
    obtain ⟨hg, h5⟩ := Bool.and_eq_true_iff.1 hg
    have h5 : spfrOks xs = true := h5
    obtain ⟨rfl, hb⟩ := encOk_iff (v := v) (e := e) (f := f) hg
    cases ho
    refine (runfrParts xs v e f b 130048).trans ?_
    unfold bodyfrParts
    have g : (decide ((130048 : Int) = 130048) && decide (b.length ≤ 130048)) = true := by simpa using hb
    show _ = some (Out.ret ((), encOutC v (spItems (spfrPE v) xs (e, f, b))))
    unfold spItems
    by_cases h : 16 < (xs.length : Int)
    · rw [if_pos h]
      refine (bif_true (decide_eq_true h) _ _).trans ?_
      exact bif_true g _ _
    · rw [if_neg h]
      refine (bif_false (decide_eq_false h) _ _).trans ?_
      refine (bif_true g _ _).trans ?_
      have hw32 : IntKind.i32.wrap (xs.length : Int) = xs.length := wrap_id (by simp [inR, IntKind.min, IntKind.max, IntKind.signed, IntKind.bits]; omega)
      rw [hw32]
      have c1 : (decide ((0 : Int) = 0) && (decide ((xs.length : Int) = (xs.length : Int)) && (decide ((130048 : Int) = 130048) && (decide ((spPutE xs.length 4 (e, f, b)).2.2.length ≤ 130048) && spfrOks xs)))) = true := by
        rw [h5]; simpa using spPutE_le (s := (e, f, b)) _ 4 hb
      have e1 : FfrParts_5 ((xs, ((xs.length : Int), (0, ()))), ((v, ((spPutE xs.length 4 (e, f, b)).1, ((spPutE xs.length 4 (e, f, b)).2.1, ()))), (((spPutE xs.length 4 (e, f, b)).2.2, (130048, ())), ((), ())))) =
          .ite true (.ret (.ret ((), ((), encOutB v (xs.foldl (fun s x => spfrPE v x s) (spPutE xs.length 4 (e, f, b))))))) .no := congrArg (fun c => Tr.ite c _ _) c1
      rw [e1]
      rfl
def spfrTE (v : Int) (t : tfrTopic.den) (s : EnS) : EnS := spfrPsE v t.2.1 (spStrE t.1 s)
def frOkT (t : tfrTopic.den) : Bool := spfrOks t.2.1
def spfrOkTs (xs : List tfrTopic.den) : Bool := xs.all frOkT
abbrev iofrTopic : Io := ⟨[.dat tfrTopic true false, .ptr 0 0], oEnc1, [], [], none⟩
def FfrTopic (d : iofrTopic.In) : Tr iofrTopic.Res := .ite (encOk d.2.2 && frOkT d.1.1) (.ret (.ret ((), encOut1 d.2.2.1.2.1 (spfrTE d.2.2.1.2.1 d.1.1 (encSt d.2.2))))) .no
abbrev csfrTopic : List (Nat × Hc) := [(61, ioHd ioeStr FeStr), (106, ioHd iofrParts FfrParts)]
def hdfrTopic : Hd := hdT csfrTopic
def lpfrTopic : Lp := lpT []
def bodyfrTopic (a0 : List Int) (a1 : List tfrPart.den) (a2 : Int) (a3 : Int) (a4 : Bool) (a5 : List Int) (a6 : Int) : Option iofrTopic.Res := bif decide (a6 = 130048) && decide (a5.length ≤ 130048) then bif decide (130048 = 130048) && decide ((spStrE a0 (a3, a4, a5)).snd.snd.length ≤ 130048) && spfrOks a1 then some (Out.ret ((), ((), ()), ((), a2, (spfrPsE a2 a1 (spStrE a0 (a3, a4, a5))).fst, (spfrPsE a2 a1 (spStrE a0 (a3, a4, a5))).snd.fst, ()), ((spfrPsE a2 a1 (spStrE a0 (a3, a4, a5))).snd.snd, 130048, ()), ())) else none else none
theorem runfrTopic (a0 : List Int) (a1 : List tfrPart.den) (a2 : Int) (a3 : Int) (a4 : Bool) (a5 : List Int) (a6 : Int) : Io.run tt hdfrTopic dr lpfrTopic iofrTopic Go.Proofs.Tryz.f105 (((a0, a1, ()), (), ()), ((), ()), ((), a2, a3, a4, ()), (a5, a6, ()), ()) = bodyfrTopic a0 a1 a2 a3 a4 a5 a6 := by kernel_rfl
theorem okfrTopic : HcOk prog 105 (ioHd iofrTopic FfrTopic) := by
  refine fn_sound (n := 400) hm (cs := csfrTopic) (.cons okeStr (.cons okfrParts .nil)) (lp := lpfrTopic) (fn := Go.Proofs.Tryz.f105) (by kernel_rfl) (by kernel_rfl) (by kernel_rfl) iofrTopic (.done (by kernel_rfl)) FfrTopic ?_
  rintro ⟨⟨⟨(t : List Int), (ps : List tfrPart.den), ⟨⟩⟩, ⟨⟩, ⟨⟩⟩, ⟨⟨⟩, ⟨⟩⟩, ⟨⟨⟩, (v : Int), (e : Int), (f : Bool), ⟨⟩⟩, ⟨(b : List Int), (m : Int), ⟨⟩⟩, ⟨⟩⟩ out hw ho
  obtain ⟨hg, ho⟩ := Tr.guard ho
  obtain ⟨hg, h5⟩ := Bool.and_eq_true_iff.1 hg
  have h5 : spfrOks ps = true := h5
  obtain ⟨rfl, hb⟩ := encOk_iff (v := v) (e := e) (f := f) hg
  cases ho
  refine (runfrTopic t ps v e f b 130048).trans ?_
  unfold bodyfrTopic
  refine (bif_true (by simpa using hb) _ _).trans ?_
  refine (bif_true (Bool.and_eq_true_iff.2 ⟨by simpa using spStrE_le (s := (e, f, b)) t hb, h5⟩) _ _).trans ?_
  rfl
theorem spfrTE_le {s : EnS} (v : Int) (t : tfrTopic.den) (h : s.2.2.length ≤ 130048) : (spfrTE v t s).2.2.length ≤ 130048 := spItems_le (fun x s => spfrPE_le v x) _ (spStrE_le _ h)
def spfrTsE (v : Int) (xs : List tfrTopic.den) (s : EnS) : EnS := spItems (spfrTE v) xs s
abbrev iofrTopics : Io := ⟨[.ptr 0 0, .dat (.sl 169 tfrTopic) false false, .fnc 105 false [2]], oEncC, [], [], none⟩
def FfrTopics (d : iofrTopics.In) : Tr iofrTopics.Res := .ite (encOkC d.2 && spfrOkTs d.1.2.1) (.ret (.ret ((), encOutC d.2.1.2.1 (spfrTsE d.2.1.2.1 d.1.2.1 (encStC d.2))))) .no
abbrev csfrTopics : List (Nat × Hc) := [(137, ioHd ioeFail FeFail), (56, ioHd ioeI32 FeI32), (105, ioHd iofrTopic FfrTopic)]
def hdfrTopics : Hd := hdT csfrTopics
abbrev lofrTopics_5 : Lo := ⟨⟨[.any, .any, .one (.fnp 105 false [2]), .any, .any, .any, .any, .any, .any, .any, .any, .any, .any, .any, .any, .any, .any, .any, .one (.hol (.sl 169 tfrTopic)), .one (.hol (.int IntKind.i64)), .one (.hol (.int IntKind.i64)), .any, .any, .any, .any, .any, .any, .any], [some [.ptr 1 0, .hol (.int IntKind.i64), .hol (.int IntKind.i64), .hol .bool], some [.onl 5 (Ty.int IntKind.u8) 514, .hol (.int IntKind.i64)], some [.ptr 0 0]]⟩, [(.exit 0, ⟨[.any, .any, .any, .any, .any, .any, .any, .any, .any, .any, .any, .any, .any, .any, .any, .any, .any, .any, .any, .any, .any, .any, .any, .any, .any, .any, .any, .any], [some [.ptr 1 0, .hol (.int IntKind.i64), .hol (.int IntKind.i64), .hol .bool], some [.onl 5 (Ty.int IntKind.u8) 514, .hol (.int IntKind.i64)], some [.ptr 0 0]]⟩)]⟩
-- FfrTopics_5 : lofrTopics_5.st.den → Tr (DenX lofrTopics_5.xs) | ((h6, (h7, (h8, ()))), ((h9, (h10, (h11, ()))), ((h12, (h13, ())), ((), ()))))
def FfrTopics_5 (d : lofrTopics_5.st.den) : Tr (DenX lofrTopics_5.xs) :=
  .ite (decide (d.1.2.2.1 = 0) && (decide (d.1.2.1 = (d.1.1.length : Int)) && (decide (d.2.2.1.2.1 = 130048) && (decide (d.2.2.1.1.length ≤ 130048) && spfrOkTs d.1.1)))) (.ret (.ret ((), ((), encOutB d.2.1.1 (d.1.1.foldl (fun s x => spfrTE d.2.1.1 x s) (d.2.1.2.1, (d.2.1.2.2.1, d.2.2.1.1))))))) .no
def lpfrTopics : Lp := lpT [(5, loHd lofrTopics_5 FfrTopics_5)]
def stepfrTopics_5 {R : Type} (h6 : List tfrTopic.den) (h7 : Int) (h8 : Int) (h9 : Int) (h10 : Int) (h11 : Bool) (h12 : List Int) (h13 : Int) (next : List tfrTopic.den → Int → Int → Int → Int → Bool → List Int → Int → Option R) (out : DenX lofrTopics_5.xs → Option R) : Option R := bif decide (h8 < h7) then bif decide (0 ≤ h8) && decide (h8 < (↑h6.length : Int)) then bif decide (h13 = 130048) && decide (h12.length ≤ 130048) && spfrOks (h6.getD h8.toNat ([], [], ())).snd.fst then next (h6) (h7) (IntKind.i64.wrap (h8 + 1)) (h9) ((spfrTE h9 (h6.getD h8.toNat ([], [], ())) (h10, h11, h12)).fst) ((spfrTE h9 (h6.getD h8.toNat ([], [], ())) (h10, h11, h12)).snd.fst) ((spfrTE h9 (h6.getD h8.toNat ([], [], ())) (h10, h11, h12)).snd.snd) (130048) else none else none else out (.ret ((), ((), ((h9, (h10, (h11, ()))), ((h12, (h13, ())), ((), ()))))))
def itfrTopics_5 (n : Nat) (h6 : List tfrTopic.den) (h7 : Int) (h8 : Int) (h9 : Int) (h10 : Int) (h11 : Bool) (h12 : List Int) (h13 : Int) : Option (DenX lofrTopics_5.xs) := lpN tt hdfrTopics dr lpfrTopics 3 Go.Proofs.Tryz.f104 (topL Go.Proofs.Tryz.f104 0) n (lofrTopics_5.st.mk' ((h6, (h7, (h8, ()))), ((h9, (h10, (h11, ()))), ((h12, (h13, ())), ((), ()))))) (decX lofrTopics_5.xs)
theorem slfrTopics_5 (n : Nat) (h6 : List tfrTopic.den) (h7 : Int) (h8 : Int) (h9 : Int) (h10 : Int) (h11 : Bool) (h12 : List Int) (h13 : Int) : itfrTopics_5 (n + 1) h6 h7 h8 h9 h10 h11 h12 h13 = stepfrTopics_5 h6 h7 h8 h9 h10 h11 h12 h13 (itfrTopics_5 n) some := by kernel_rfl
theorem loopfrTopics {xs : List tfrTopic.den} (v : Int) (hl : xs.length ≤ maxLen) (hok : ∀ x ∈ xs, frOkT x = true) : ∀ (k i : Nat) (s : EnS), xs.length < i + k → i ≤ xs.length → s.2.2.length ≤ 130048 →
    itfrTopics_5 k xs (xs.length : Int) i v s.1 s.2.1 s.2.2 130048 = some (.ret ((), ((), encOutB v ((xs.drop i).foldl (fun s x => spfrTE v x s) s)))) := by
  intro k
  induction k with
  | zero => intro i s h; omega
  | succ k ih =>
    intro i s h1 h2 h3
    rw [slfrTopics_5]
    unfold stepfrTopics_5
    by_cases hi : i < xs.length
    · refine (bif_true (decide_eq_true (show (i : Int) < (xs.length : Int) by omega)) _ _).trans ?_
      refine (bif_true (by simpa using hi) _ _).trans ?_
      simp only [Int.toNat_natCast, getD_lt hi, wrap_succ hi hl]
      have g : (decide ((130048 : Int) = 130048) && decide (s.2.2.length ≤ 130048) && frOkT xs[i]) = true := by
        rw [hok _ (List.getElem_mem hi)]; simpa using h3
      refine (bif_true g _ _).trans ?_
      rw [List.drop_eq_getElem_cons hi]
      exact ih (i + 1) (spfrTE v xs[i] s) (by omega) (by omega) (spfrTE_le v _ h3)
    · refine (bif_false (by simp; omega) _ _).trans ?_
      rw [List.drop_of_length_le (by omega)]
      rfl
def bodyfrTopics (a0 : List tfrTopic.den) (a1 : Int) (a2 : Int) (a3 : Bool) (a4 : List Int) (a5 : Int) : Option iofrTopics.Res := bif decide (16 < (↑a0.length : Int)) then bif decide (a5 = 130048) && decide (a4.length ≤ 130048) then some (Out.ret ((), ((), a1, (spFail 9 (a2, a3, a4)).fst, (spFail 9 (a2, a3, a4)).snd.fst, ()), ((spFail 9 (a2, a3, a4)).snd.snd, 130048, ()), ((), ()), ())) else none else bif decide (a5 = 130048) && decide (a4.length ≤ 130048) then (FfrTopics_5 ((a0, ((↑a0.length : Int), (0, ()))), ((a1, ((spPutE (IntKind.i32.wrap (↑a0.length : Int)) 4 (a2, a3, a4)).fst, ((spPutE (IntKind.i32.wrap (↑a0.length : Int)) 4 (a2, a3, a4)).snd.fst, ()))), (((spPutE (IntKind.i32.wrap (↑a0.length : Int)) 4 (a2, a3, a4)).snd.snd, (130048, ())), ((), ()))))).run fun y => match y with | .ret ((), ((), (x27, x28, x29, ()), (x30, x31, ()), (), ())) => (some (Out.ret ((), ((), x27, x28, x29, ()), (x30, x31, ()), ((), ()), ()))) else none
theorem runfrTopics (a0 : List tfrTopic.den) (a1 : Int) (a2 : Int) (a3 : Bool) (a4 : List Int) (a5 : Int) : Io.run tt hdfrTopics dr lpfrTopics iofrTopics Go.Proofs.Tryz.f104 (((), a0, (), ()), ((), a1, a2, a3, ()), (a4, a5, ()), ((), ()), ()) = bodyfrTopics a0 a1 a2 a3 a4 a5 := by kernel_rfl
theorem okfrTopics : HcOk prog 104 (ioHd iofrTopics FfrTopics) := by
  refine fn_sound (n := 400) hm (cs := csfrTopics) (.cons okeFail (.cons okeI32 (.cons okfrTopic .nil))) (lp := lpfrTopics) (fn := Go.Proofs.Tryz.f104) (by kernel_rfl) (by kernel_rfl) (by kernel_rfl) iofrTopics (.step (h0 := loHd lofrTopics_5 FfrTopics_5) (by kernel_rfl) (loop_sound (n := 400) hm (cs := csfrTopics) (.cons okeFail (.cons okeI32 (.cons okfrTopic .nil))) (lp := lpfrTopics) (fn := Go.Proofs.Tryz.f104) (.done (by kernel_rfl)) lofrTopics_5 FfrTopics_5 ?_) (.done (by kernel_rfl))) FfrTopics ?_
  · rintro ⟨⟨(xs : List tfrTopic.den), (n : Int), (i : Int), ⟨⟩⟩, ⟨⟨(v : Int), (e : Int), (f : Bool), ⟨⟩⟩, ⟨(b : List Int), (m : Int), ⟨⟩⟩, ⟨⟨⟩, ⟨⟩⟩⟩⟩ y hw hy
    obtain ⟨hg, hy⟩ := Tr.guard hy
    simp only [Bool.and_eq_true, decide_eq_true_eq] at hg
    obtain ⟨rfl, rfl, rfl, h4, h5⟩ := hg
    have h5 : ∀ x ∈ xs, frOkT x = true := List.all_eq_true.1 h5
    have h4 : b.length ≤ 130048 := h4
    have hl : xs.length ≤ maxLen := hw.1.1.1
    refine ⟨xs.length + 1, (loopfrTopics v hl h5 (xs.length + 1) 0 (e, (f, b)) (by omega) (by omega) h4).trans ?_⟩
    rw [← hy]; rfl
  · rintro ⟨⟨⟨⟩, (xs : List tfrTopic.den), ⟨⟩, ⟨⟩⟩, ⟨⟨⟩, (v : Int), (e : Int), (f : Bool), ⟨⟩⟩, ⟨(b : List Int), (m : Int), ⟨⟩⟩, ⟨⟨⟩, ⟨⟩⟩, ⟨⟩⟩ out hw ho
    obtain ⟨hg, ho⟩ := Tr.guard ho
    obtain ⟨hg, h5⟩ := Bool.and_eq_true_iff.1 hg
    have h5 : spfrOkTs xs = true := h5
    obtain ⟨rfl, hb⟩ := encOk_iff (v := v) (e := e) (f := f) hg
    cases ho
    refine (runfrTopics xs v e f b 130048).trans ?_
    unfold bodyfrTopics
    have g : (decide ((130048 : Int) = 130048) && decide (b.length ≤ 130048)) = true := by simpa using hb
    show _ = some (Out.ret ((), encOutC v (spItems (spfrTE v) xs (e, f, b))))
    unfold spItems
    by_cases h : 16 < (xs.length : Int)
    · rw [if_pos h]
      refine (bif_true (decide_eq_true h) _ _).trans ?_
      exact bif_true g _ _
    · rw [if_neg h]
      refine (bif_false (decide_eq_false h) _ _).trans ?_
      refine (bif_true g _ _).trans ?_
      have hw32 : IntKind.i32.wrap (xs.length : Int) = xs.length := wrap_id (by simp [inR, IntKind.min, IntKind.max, IntKind.signed, IntKind.bits]; omega)
      rw [hw32]
      have c1 : (decide ((0 : Int) = 0) && (decide ((xs.length : Int) = (xs.length : Int)) && (decide ((130048 : Int) = 130048) && (decide ((spPutE xs.length 4 (e, f, b)).2.2.length ≤ 130048) && spfrOkTs xs)))) = true := by
        rw [h5]; simpa using spPutE_le (s := (e, f, b)) _ 4 hb
      have e1 : FfrTopics_5 ((xs, ((xs.length : Int), (0, ()))), ((v, ((spPutE xs.length 4 (e, f, b)).1, ((spPutE xs.length 4 (e, f, b)).2.1, ()))), (((spPutE xs.length 4 (e, f, b)).2.2, (130048, ())), ((), ())))) =
          .ite true (.ret (.ret ((), ((), encOutB v (xs.foldl (fun s x => spfrTE v x s) (spPutE xs.length 4 (e, f, b))))))) .no := congrArg (fun c => Tr.ite c _ _) c1
      rw [e1]
      rfl
def spfrLP (v : Int) (p : tfrPart.den) (s : EnS) : EnS := spLacks v (p.2.2.2.2.1 == 0) 3 3 (spLacks v (p.2.2.2.1 == 0) 2 3 (s))
def spfrLPs (v : Int) (ps : List tfrPart.den) (s : EnS) : EnS := ps.foldl (fun s p => spfrLP v p s) s
def spfrLR (v : Int) (ts : List tfrTopic.den) (s : EnS) : EnS := ts.foldl (fun s t => spfrLPs v t.2.1 s) s
def spfrE (v : Int) (m : tfrMsg.den) : EnS := spfrTsE v m.2.1 (spHasE v 1 3 m.1 4 (spfrLR v m.2.1 (spLacks v (m.1 == 0) 1 3 (spNewE v, (false, ([] : List Int))))))
abbrev iofrMsg : Io := ⟨[dI, .dat tfrMsg true false], [], [], [dO, dI], none⟩
def FfrMsg (d : iofrMsg.In) : Tr iofrMsg.Res := .ite (spfrOkTs d.1.2.1.2.1) (.ret (.ret ((spDoneO (spfrE d.1.1 d.1.2.1), (spDoneE (spfrE d.1.1 d.1.2.1), ())), ()))) .no
abbrev csfrMsg : List (Nat × Hc) := [(54, ioHd ioeNew FeNew), (55, ioHd ioeLacks FeLacks), (57, ioHd ioeHas FeHas), (56, ioHd ioeI32 FeI32), (104, ioHd iofrTopics FfrTopics), (65, ioHd ioeDone FeDone)]
def hdfrMsg : Hd := hdT csfrMsg
abbrev lofrMsg_8 : Lo := ⟨⟨[.any, .any, .any, .one (.ptr 3 0), .any, .any, .one (.ptr 6 0), .any, .any, .any, .any, .any, .any, .any, .any, .any, .any, .any, .any, .one (.hol (.sl 169 tfrTopic)), .one (.hol (.int IntKind.i64)), .one (.hol (.int IntKind.i64)), .any, .any, .any, .any, .one (.hol (.sl 173 tfrPart)), .one (.hol (.int IntKind.i64)), .one (.hol (.int IntKind.i64)), .any, .any, .any, .any, .any, .any, .any, .any, .any, .any, .any, .any, .any, .any, .any, .any, .any, .any, .any, .any, .any, .any, .any, .any, .any, .any, .any, .any, .any, .any], [none, none, none, some [.hol (.int IntKind.i32), .hol (.sl 169 tfrTopic)], none, none, some [.ptr 12 0], none, none, none, none, none, some [.ptr 13 0, .hol (.int IntKind.i64), .hol (.int IntKind.i64), .hol .bool], some [.onl 5 (Ty.int IntKind.u8) 6658, .hol (.int IntKind.i64)]]⟩, [(.exit 2, ⟨[.any, .any, .any, .one (.ptr 3 0), .any, .any, .one (.ptr 6 0), .any, .any, .any, .any, .any, .any, .any, .any, .any, .any, .any, .any, .one (.hol (.sl 169 tfrTopic)), .one (.hol (.int IntKind.i64)), .one (.hol (.int IntKind.i64)), .any, .any, .any, .any, .any, .any, .any, .any, .any, .any, .any, .any, .any, .any, .any, .any, .any, .any, .any, .any, .any, .any, .any, .any, .any, .any, .any, .any, .any, .any, .any, .any, .any, .any, .any, .any, .any], [none, none, none, some [.hol (.int IntKind.i32), .hol (.sl 169 tfrTopic)], none, none, some [.ptr 12 0], none, none, none, none, none, some [.ptr 13 0, .hol (.int IntKind.i64), .hol (.int IntKind.i64), .hol .bool], some [.onl 5 (Ty.int IntKind.u8) 6658, .hol (.int IntKind.i64)]]⟩)]⟩
-- FfrMsg_8 : lofrMsg_8.st.den → Tr (DenX lofrMsg_8.xs) | ((h13, (h14, (h15, (h16, (h17, (h18, ())))))), ((h19, (h20, ())), ((), ((h21, (h22, (h23, ()))), ((h24, (h25, ())), ())))))
abbrev lofrMsg_5 : Lo := ⟨⟨[.any, .any, .any, .one (.ptr 3 0), .any, .any, .one (.ptr 6 0), .any, .any, .any, .any, .any, .any, .any, .any, .any, .any, .any, .any, .one (.hol (.sl 169 tfrTopic)), .one (.hol (.int IntKind.i64)), .one (.hol (.int IntKind.i64)), .any, .any, .any, .any, .any, .any, .any, .any, .any, .any, .any, .any, .any, .any, .any, .any, .any, .any, .any, .any, .any, .any, .any, .any, .any, .any, .any, .any, .any, .any, .any, .any, .any, .any, .any, .any, .any], [none, none, none, some [.hol (.int IntKind.i32), .hol (.sl 169 tfrTopic)], none, none, some [.ptr 12 0], none, none, none, none, none, some [.ptr 13 0, .hol (.int IntKind.i64), .hol (.int IntKind.i64), .hol .bool], some [.onl 5 (Ty.int IntKind.u8) 6658, .hol (.int IntKind.i64)]]⟩, [(.exit 0, ⟨[.any, .any, .any, .one (.ptr 3 0), .any, .any, .one (.ptr 6 0), .any, .any, .any, .any, .any, .any, .any, .any, .any, .any, .any, .any, .any, .any, .any, .any, .any, .any, .any, .any, .any, .any, .any, .any, .any, .any, .any, .any, .any, .any, .any, .any, .any, .any, .any, .any, .any, .any, .any, .any, .any, .any, .any, .any, .any, .any, .any, .any, .any, .any, .any, .any], [none, none, none, some [.hol (.int IntKind.i32), .hol (.sl 169 tfrTopic)], none, none, some [.ptr 12 0], none, none, none, none, none, some [.ptr 13 0, .hol (.int IntKind.i64), .hol (.int IntKind.i64), .hol .bool], some [.onl 5 (Ty.int IntKind.u8) 6658, .hol (.int IntKind.i64)]]⟩)]⟩
-- FfrMsg_5 : lofrMsg_5.st.den → Tr (DenX lofrMsg_5.xs) | ((h3, (h4, (h5, ()))), ((h6, (h7, ())), ((), ((h8, (h9, (h10, ()))), ((h11, (h12, ())), ())))))
abbrev outBfr (th' : Int) (ts' : List tfrTopic.den) (v : Int) (s : EnS) : (Int × (List tfrTopic.den × Unit)) × (Unit × ((Int × (Int × (Bool × Unit))) × ((List Int × (Int × Unit)) × Unit))) := ((th', (ts', ())), ((), ((v, (s.1, (s.2.1, ()))), ((s.2.2, (130048, ())), ()))))
def FfrMsg_8 (d : lofrMsg_8.st.den) : Tr (DenX lofrMsg_8.xs) :=
  .ite (decide (d.1.2.2.2.2.2.1 = 0) && (decide (d.1.2.2.2.2.1 = (d.1.2.2.2.1.length : Int)) && (decide (d.2.2.2.2.1.2.1 = 130048) && decide (d.2.2.2.2.1.1.length ≤ 130048)))) (.ret (.ret ((), ((d.1.1, (d.1.2.1, (d.1.2.2.1, ()))), outBfr d.2.1.1 d.2.1.2.1 d.2.2.2.1.1 (spfrLPs d.2.2.2.1.1 d.1.2.2.2.1 (d.2.2.2.1.2.1, (d.2.2.2.1.2.2.1, d.2.2.2.2.1.1))))))) .no
def FfrMsg_5 (d : lofrMsg_5.st.den) : Tr (DenX lofrMsg_5.xs) :=
  .ite (decide (d.1.2.2.1 = 0) && (decide (d.1.2.1 = (d.1.1.length : Int)) && (decide (d.2.2.2.2.1.2.1 = 130048) && decide (d.2.2.2.2.1.1.length ≤ 130048)))) (.ret (.ret ((), ((), outBfr d.2.1.1 d.2.1.2.1 d.2.2.2.1.1 (spfrLR d.2.2.2.1.1 d.1.1 (d.2.2.2.1.2.1, (d.2.2.2.1.2.2.1, d.2.2.2.2.1.1))))))) .no
def lpfrMsg : Lp := lpT [(5, loHd lofrMsg_5 FfrMsg_5), (8, loHd lofrMsg_8 FfrMsg_8)]
def stepfrMsg_8 {R : Type} (h13 : List tfrTopic.den) (h14 : Int) (h15 : Int) (h16 : List tfrPart.den) (h17 : Int) (h18 : Int) (h19 : Int) (h20 : List tfrTopic.den) (h21 : Int) (h22 : Int) (h23 : Bool) (h24 : List Int) (h25 : Int) (next : List tfrTopic.den → Int → Int → List tfrPart.den → Int → Int → Int → List tfrTopic.den → Int → Int → Bool → List Int → Int → Option R) (out : DenX lofrMsg_8.xs → Option R) : Option R := bif decide (h18 < h17) then bif decide (0 ≤ h18) && decide (h18 < (↑h16.length : Int)) then bif decide (h25 = 130048) && decide (h24.length ≤ 130048) then bif decide (130048 = 130048) && decide ((spLacks h21 ((h16.getD h18.toNat (0, 0, 0, 0, 0, (false, [], ()), ())).snd.snd.snd.fst == 0) 2 3 (h22, h23, h24)).snd.snd.length ≤ 130048) then next (h13) (h14) (h15) (h16) (h17) (IntKind.i64.wrap (h18 + 1)) (h19) (h20) (h21) ((spLacks h21 ((h16.getD h18.toNat (0, 0, 0, 0, 0, (false, [], ()), ())).snd.snd.snd.snd.fst == 0) 3 3 (spLacks h21 ((h16.getD h18.toNat (0, 0, 0, 0, 0, (false, [], ()), ())).snd.snd.snd.fst == 0) 2 3 (h22, h23, h24))).fst) ((spLacks h21 ((h16.getD h18.toNat (0, 0, 0, 0, 0, (false, [], ()), ())).snd.snd.snd.snd.fst == 0) 3 3 (spLacks h21 ((h16.getD h18.toNat (0, 0, 0, 0, 0, (false, [], ()), ())).snd.snd.snd.fst == 0) 2 3 (h22, h23, h24))).snd.fst) ((spLacks h21 ((h16.getD h18.toNat (0, 0, 0, 0, 0, (false, [], ()), ())).snd.snd.snd.snd.fst == 0) 3 3 (spLacks h21 ((h16.getD h18.toNat (0, 0, 0, 0, 0, (false, [], ()), ())).snd.snd.snd.fst == 0) 2 3 (h22, h23, h24))).snd.snd) (130048) else none else none else none else out (.ret ((), ((h13, (h14, (h15, ()))), ((h19, (h20, ())), ((), ((h21, (h22, (h23, ()))), ((h24, (h25, ())), ())))))))
def itfrMsg_8 (n : Nat) (h13 : List tfrTopic.den) (h14 : Int) (h15 : Int) (h16 : List tfrPart.den) (h17 : Int) (h18 : Int) (h19 : Int) (h20 : List tfrTopic.den) (h21 : Int) (h22 : Int) (h23 : Bool) (h24 : List Int) (h25 : Int) : Option (DenX lofrMsg_8.xs) := lpN tt hdfrMsg dr lpfrMsg 0 Go.Proofs.Tryz.f37 (subL Go.Proofs.Tryz.f37 (topL Go.Proofs.Tryz.f37 0) 0) n (lofrMsg_8.st.mk' ((h13, (h14, (h15, (h16, (h17, (h18, ())))))), ((h19, (h20, ())), ((), ((h21, (h22, (h23, ()))), ((h24, (h25, ())), ())))))) (decX lofrMsg_8.xs)
theorem slfrMsg_8 (n : Nat) (h13 : List tfrTopic.den) (h14 : Int) (h15 : Int) (h16 : List tfrPart.den) (h17 : Int) (h18 : Int) (h19 : Int) (h20 : List tfrTopic.den) (h21 : Int) (h22 : Int) (h23 : Bool) (h24 : List Int) (h25 : Int) : itfrMsg_8 (n + 1) h13 h14 h15 h16 h17 h18 h19 h20 h21 h22 h23 h24 h25 = stepfrMsg_8 h13 h14 h15 h16 h17 h18 h19 h20 h21 h22 h23 h24 h25 (itfrMsg_8 n) some := by kernel_rfl
def stepfrMsg_5 {R : Type} (h3 : List tfrTopic.den) (h4 : Int) (h5 : Int) (h6 : Int) (h7 : List tfrTopic.den) (h8 : Int) (h9 : Int) (h10 : Bool) (h11 : List Int) (h12 : Int) (next : List tfrTopic.den → Int → Int → Int → List tfrTopic.den → Int → Int → Bool → List Int → Int → Option R) (out : DenX lofrMsg_5.xs → Option R) : Option R := bif decide (h5 < h4) then bif decide (0 ≤ h5) && decide (h5 < (↑h3.length : Int)) then (FfrMsg_8 ((h3, (h4, (h5, ((h3.getD h5.toNat ([], [], ())).snd.fst, ((↑(List.length (h3.getD h5.toNat ([], [], ())).snd.fst) : Int), (0, ())))))), ((h6, (h7, ())), ((), ((h8, (h9, (h10, ()))), ((h11, (h12, ())), ())))))).run fun y => match y with | .ret ((), ((x49, x50, x51, ()), (x52, x53, ()), (), (x54, x55, x56, ()), (x57, x58, ()), ())) => (next (x49) (x50) (IntKind.i64.wrap (x51 + 1)) (x52) (x53) (x54) (x55) (x56) (x57) (x58)) else none else out (.ret ((), ((), ((h6, (h7, ())), ((), ((h8, (h9, (h10, ()))), ((h11, (h12, ())), ())))))))
def itfrMsg_5 (n : Nat) (h3 : List tfrTopic.den) (h4 : Int) (h5 : Int) (h6 : Int) (h7 : List tfrTopic.den) (h8 : Int) (h9 : Int) (h10 : Bool) (h11 : List Int) (h12 : Int) : Option (DenX lofrMsg_5.xs) := lpN tt hdfrMsg dr lpfrMsg 0 Go.Proofs.Tryz.f37 (topL Go.Proofs.Tryz.f37 0) n (lofrMsg_5.st.mk' ((h3, (h4, (h5, ()))), ((h6, (h7, ())), ((), ((h8, (h9, (h10, ()))), ((h11, (h12, ())), ())))))) (decX lofrMsg_5.xs)
theorem slfrMsg_5 (n : Nat) (h3 : List tfrTopic.den) (h4 : Int) (h5 : Int) (h6 : Int) (h7 : List tfrTopic.den) (h8 : Int) (h9 : Int) (h10 : Bool) (h11 : List Int) (h12 : Int) : itfrMsg_5 (n + 1) h3 h4 h5 h6 h7 h8 h9 h10 h11 h12 = stepfrMsg_5 h3 h4 h5 h6 h7 h8 h9 h10 h11 h12 (itfrMsg_5 n) some := by kernel_rfl
theorem spfrLP_le {s : EnS} (v : Int) (p : tfrPart.den) (h : s.2.2.length ≤ 130048) : (spfrLP v p s).2.2.length ≤ 130048 := spLacks_le _ _ _ _ (spLacks_le _ _ _ _ h)
theorem spfrLPs_le {s : EnS} (v : Int) (ps : List tfrPart.den) (h : s.2.2.length ≤ 130048) : (spfrLPs v ps s).2.2.length ≤ 130048 := foldl_le (fun x s => spfrLP_le v x) ps s h
theorem spfrLR_le {s : EnS} (v : Int) (ts : List tfrTopic.den) (h : s.2.2.length ≤ 130048) : (spfrLR v ts s).2.2.length ≤ 130048 := foldl_le (one := fun (t : tfrTopic.den) (s : EnS) => spfrLPs v t.2.1 s) (fun x s h => spfrLPs_le v x.2.1 h) ts s h
theorem loopfrMsg_8 (us : List tfrTopic.den) (n i : Int) (th' : Int) (ts' : List tfrTopic.den) (v : Int) {ps : List tfrPart.den} (hl : ps.length ≤ maxLen) : ∀ (k j : Nat) (s : EnS), ps.length < j + k → j ≤ ps.length → s.2.2.length ≤ 130048 →
    itfrMsg_8 k us n i ps (ps.length : Int) j th' ts' v s.1 s.2.1 s.2.2 130048 = some (.ret ((), ((us, (n, (i, ()))), outBfr th' ts' v ((ps.drop j).foldl (fun s p => spfrLP v p s) s)))) := by
  intro k
  have hg : ∀ s : EnS, s.2.2.length ≤ 130048 → (decide ((130048 : Int) = 130048) && decide (s.2.2.length ≤ 130048)) = true := fun s h => by simpa using h
  induction k with
  | zero => intro j s h; omega
  | succ k ih =>
    intro j s h1 h2 q0
    rw [slfrMsg_8]
    unfold stepfrMsg_8
    by_cases hi : j < ps.length
    · refine (bif_true (decide_eq_true (show (j : Int) < (ps.length : Int) by omega)) _ _).trans ?_
      refine (bif_true (by simpa using hi) _ _).trans ?_
      simp only [Int.toNat_natCast, getD_lt hi, wrap_succ hi hl]
      refine (bif_true (hg _ q0) _ _).trans ?_
      have q1 := spLacks_le (s := s) v (ps[j].2.2.2.1 == 0) 2 3 q0
      refine (bif_true (hg _ q1) _ _).trans ?_
      have q2 := spLacks_le (s := spLacks v (ps[j].2.2.2.1 == 0) 2 3 s) v (ps[j].2.2.2.2.1 == 0) 3 3 q1
      rw [List.drop_eq_getElem_cons hi]
      exact ih (j + 1) (spfrLP v ps[j] s) (by omega) (by omega) (spfrLP_le _ _ q0)
    · refine (bif_false (by simp; omega) _ _).trans ?_
      rw [List.drop_of_length_le (by omega)]
      rfl
theorem loopfrMsg_5 {us : List tfrTopic.den} (th' : Int) (ts' : List tfrTopic.den) (v : Int) (hl : us.length ≤ maxLen) : ∀ (k j : Nat) (s : EnS), us.length < j + k → j ≤ us.length → s.2.2.length ≤ 130048 →
    itfrMsg_5 k us (us.length : Int) j th' ts' v s.1 s.2.1 s.2.2 130048 = some (.ret ((), ((), outBfr th' ts' v ((us.drop j).foldl (fun s t => spfrLPs v t.2.1 s) s)))) := by
  intro k
  induction k with
  | zero => intro j s h; omega
  | succ k ih =>
    intro j s h1 h2 h3
    rw [slfrMsg_5]
    unfold stepfrMsg_5
    by_cases hi : j < us.length
    · refine (bif_true (decide_eq_true (show (j : Int) < (us.length : Int) by omega)) _ _).trans ?_
      refine (bif_true (by simpa using hi) _ _).trans ?_
      simp only [Int.toNat_natCast, getD_lt hi]
      have c1 : (decide ((0 : Int) = 0) && (decide ((us[j].2.1.length : Int) = (us[j].2.1.length : Int)) && (decide ((130048 : Int) = 130048) && decide (s.2.2.length ≤ 130048)))) = true := by simpa using h3
      have e1 : FfrMsg_8 ((us, ((us.length : Int), ((j : Int), (us[j].2.1, ((us[j].2.1.length : Int), (0, ())))))), ((th', (ts', ())), ((), ((v, (s.1, (s.2.1, ()))), ((s.2.2, (130048, ())), ()))))) =
          .ite true (.ret (.ret ((), ((us, ((us.length : Int), ((j : Int), ()))), outBfr th' ts' v (spfrLPs v us[j].2.1 s))))) .no := congrArg (fun c => Tr.ite c _ _) c1
      rw [e1]
      show itfrMsg_5 k us (us.length : Int) (IntKind.i64.wrap ((j : Int) + 1)) th' ts' v (spfrLPs v us[j].2.1 s).1 (spfrLPs v us[j].2.1 s).2.1 (spfrLPs v us[j].2.1 s).2.2 130048 = _
      rw [wrap_succ hi hl, List.drop_eq_getElem_cons hi]
      exact ih (j + 1) (spfrLPs v us[j].2.1 s) (by omega) (by omega) (spfrLPs_le _ _ h3)
    · refine (bif_false (by simp; omega) _ _).trans ?_
      rw [List.drop_of_length_le (by omega)]
      rfl
def bodyfrMsg (a0 : Int) (a1 : Int) (a2 : List tfrTopic.den) : Option iofrMsg.Res := (FfrMsg_5 ((a2, ((↑a2.length : Int), (0, ()))), ((a1, (a2, ())), ((), ((a0, ((spLacks a0 (a1 == 0) 1 3 (spNewE a0, false, [])).fst, ((spLacks a0 (a1 == 0) 1 3 (spNewE a0, false, [])).snd.fst, ()))), (((spLacks a0 (a1 == 0) 1 3 (spNewE a0, false, [])).snd.snd, (130048, ())), ())))))).run fun y => match y with | .ret ((), ((), (x76, x77, ()), (), (x78, x79, x80, ()), (x81, x82, ()), ())) => (bif decide (x82 = 130048) && decide (x81.length ≤ 130048) then bif decide (1 ≤ x78) && decide (x78 ≤ 3) then bif decide (130048 = 130048) && decide (x81.length ≤ 130048) then bif decide (130048 = 130048) && decide ((spPutE x76 4 (x79, x80, x81)).snd.snd.length ≤ 130048) && spfrOkTs x77 then bif decide (130048 = 130048) && decide ((spfrTsE x78 x77 (spPutE x76 4 (x79, x80, x81))).snd.snd.length ≤ 130048) then some (Out.ret ((spDoneO (spfrTsE x78 x77 (spPutE x76 4 (x79, x80, x81))), spDoneE (spfrTsE x78 x77 (spPutE x76 4 (x79, x80, x81))), ()), ())) else none else none else none else bif decide (130048 = 130048) && decide (x81.length ≤ 130048) && spfrOkTs x77 then bif decide (130048 = 130048) && decide ((spfrTsE x78 x77 (x79, x80, x81)).snd.snd.length ≤ 130048) then some (Out.ret ((spDoneO (spfrTsE x78 x77 (x79, x80, x81)), spDoneE (spfrTsE x78 x77 (x79, x80, x81)), ()), ())) else none else none else none)
theorem runfrMsg (a0 : Int) (a1 : Int) (a2 : List tfrTopic.den) : Io.run tt hdfrMsg dr lpfrMsg iofrMsg Go.Proofs.Tryz.f37 ((a0, (a1, a2, ()), ()), ()) = bodyfrMsg a0 a1 a2 := by kernel_rfl
theorem okfrMsg : HcOk prog 37 (ioHd iofrMsg FfrMsg) := by
  refine fn_sound (n := 400) hm (cs := csfrMsg) (.cons okeNew (.cons okeLacks (.cons okeHas (.cons okeI32 (.cons okfrTopics (.cons okeDone .nil)))))) (lp := lpfrMsg) (fn := Go.Proofs.Tryz.f37) (by kernel_rfl) (by kernel_rfl) (by kernel_rfl) iofrMsg (.step (h0 := loHd lofrMsg_5 FfrMsg_5) (by kernel_rfl) (loop_sound (n := 400) hm (cs := csfrMsg) (.cons okeNew (.cons okeLacks (.cons okeHas (.cons okeI32 (.cons okfrTopics (.cons okeDone .nil)))))) (lp := lpfrMsg) (fn := Go.Proofs.Tryz.f37) (.step (h0 := loHd lofrMsg_8 FfrMsg_8) (by kernel_rfl) (loop_sound (n := 400) hm (cs := csfrMsg) (.cons okeNew (.cons okeLacks (.cons okeHas (.cons okeI32 (.cons okfrTopics (.cons okeDone .nil)))))) (lp := lpfrMsg) (fn := Go.Proofs.Tryz.f37) (.done (by kernel_rfl)) lofrMsg_8 FfrMsg_8 ?_) (.done (by kernel_rfl))) lofrMsg_5 FfrMsg_5 ?_) (.done (by kernel_rfl))) FfrMsg ?_
  · rintro ⟨⟨(us : List tfrTopic.den), (n : Int), (i : Int), (ps : List tfrPart.den), (pn : Int), (pj : Int), ⟨⟩⟩, ⟨⟨(th' : Int), (ts' : List tfrTopic.den), ⟨⟩⟩, ⟨⟩, ⟨(v : Int), (e : Int), (f : Bool), ⟨⟩⟩, ⟨(b : List Int), (m : Int), ⟨⟩⟩, ⟨⟩⟩⟩ y hw hy
    obtain ⟨hg, hy⟩ := Tr.guard hy
    simp only [Bool.and_eq_true, decide_eq_true_eq] at hg
    obtain ⟨rfl, rfl, rfl, h4⟩ := hg
    have h4 : b.length ≤ 130048 := h4
    have hl : ps.length ≤ maxLen := hw.1.2.2.2.1.1
    refine ⟨ps.length + 1, (loopfrMsg_8 us n i th' ts' v hl (ps.length + 1) 0 (e, (f, b)) (by omega) (by omega) h4).trans ?_⟩
    rw [← hy]; rfl
  · rintro ⟨⟨(us : List tfrTopic.den), (n : Int), (i : Int), ⟨⟩⟩, ⟨⟨(th' : Int), (ts' : List tfrTopic.den), ⟨⟩⟩, ⟨⟩, ⟨(v : Int), (e : Int), (f : Bool), ⟨⟩⟩, ⟨(b : List Int), (m : Int), ⟨⟩⟩, ⟨⟩⟩⟩ y hw hy
    obtain ⟨hg, hy⟩ := Tr.guard hy
    simp only [Bool.and_eq_true, decide_eq_true_eq] at hg
    obtain ⟨rfl, rfl, rfl, h4⟩ := hg
    have h4 : b.length ≤ 130048 := h4
    have hl : us.length ≤ maxLen := hw.1.1.1
    refine ⟨us.length + 1, (loopfrMsg_5 th' ts' v hl (us.length + 1) 0 (e, (f, b)) (by omega) (by omega) h4).trans ?_⟩
    rw [← hy]; rfl
  · rintro ⟨⟨(v : Int), ⟨(th : Int), (ts : List tfrTopic.den), ⟨⟩⟩, ⟨⟩⟩, ⟨⟩⟩ out hw ho
    obtain ⟨hg, ho⟩ := Tr.guard ho
    have hok : spfrOkTs ts = true := hg
    clear hg
    cases ho
    refine (runfrMsg v th ts).trans ?_
    unfold bodyfrMsg
    have hg : ∀ s : EnS, s.2.2.length ≤ 130048 → (decide ((130048 : Int) = 130048) && decide (s.2.2.length ≤ 130048)) = true := fun s h => by simpa using h
    have q0 : (spNewE v, (false, ([] : List Int))).2.2.length ≤ 130048 := by simp
    have q1 := spLacks_le (s := (spNewE v, (false, ([] : List Int)))) v (th == 0) 1 3 q0
    have c1 : (decide ((0 : Int) = 0) && (decide ((ts.length : Int) = (ts.length : Int)) && (decide ((130048 : Int) = 130048) && decide ((spLacks v (th == 0) 1 3 (spNewE v, (false, ([] : List Int)))).2.2.length ≤ 130048)))) = true := by simpa using q1
    have e1 : FfrMsg_5 ((ts, ((ts.length : Int), (0, ()))), ((th, (ts, ())), ((), ((v, ((spLacks v (th == 0) 1 3 (spNewE v, (false, ([] : List Int)))).1, ((spLacks v (th == 0) 1 3 (spNewE v, (false, ([] : List Int)))).2.1, ()))), (((spLacks v (th == 0) 1 3 (spNewE v, (false, ([] : List Int)))).2.2, (130048, ())), ()))))) =
        .ite true (.ret (.ret ((), ((), outBfr th ts v (spfrLR v ts (spLacks v (th == 0) 1 3 (spNewE v, (false, ([] : List Int))))))))) .no := congrArg (fun c => Tr.ite c _ _) c1
    rw [e1]
    have r0 := spfrLR_le v ts q1
    refine (bif_true (hg _ r0) _ _).trans ?_
    by_cases h0_0 : 1 ≤ v ∧ v ≤ 3
    · refine (bif_true (by simpa using h0_0) _ _).trans ?_
      refine (bif_true (hg _ r0) _ _).trans ?_
      have l0_0 := spPutE_le th 4 r0
      refine (bif_true (by rw [hok, Bool.and_true]; exact hg _ l0_0) _ _).trans ?_
      have l1_1 := spItems_le (fun x s => spfrTE_le v x) ts l0_0
      refine (bif_true (hg _ l1_1) _ _).trans ?_
      simp only [spfrE, spHasE_in h0_0]
    · refine (bif_false (Bool.eq_false_iff.2 fun h' => h0_0 (by simpa using h')) _ _).trans ?_
      refine (bif_true (by rw [hok, Bool.and_true]; exact hg _ r0) _ _).trans ?_
      have l1_1 := spItems_le (fun x s => spfrTE_le v x) ts r0
      refine (bif_true (hg _ l1_1) _ _).trans ?_
      simp only [spfrE, spHasE_out h0_0]
end
end Go.Proofs.YtjpeefegeobgfaaGreat.Sym
namespace Go.Proofs.YtjpeefegeobgfaaGreat.Sym
open Go
set_option linter.unusedSimpArgs false
set_option linter.unusedVariables false
noncomputable section
@[irreducible] noncomputable def spfrPD (v : Int) (b : List Int) (s : DeS) : tfrPart.den × DeS :=
  (((spDn .i32 4 b s).1, ((spDn .i16 2 b (spDn .i32 4 b s).2).1, ((spDn .i64 8 b (spDn .i16 2 b (spDn .i32 4 b s).2).2).1, ((spDHasN .i64 8 v 2 3 b (spDn .i64 8 b (spDn .i16 2 b (spDn .i32 4 b s).2).2).2).1, ((spDHasN .i64 8 v 3 3 b (spDHasN .i64 8 v 2 3 b (spDn .i64 8 b (spDn .i16 2 b (spDn .i32 4 b s).2).2).2).2).1, ((spDBlob b (spDHasN .i64 8 v 3 3 b (spDHasN .i64 8 v 2 3 b (spDn .i64 8 b (spDn .i16 2 b (spDn .i32 4 b s).2).2).2).2).2).1, ())))))), (spDBlob b (spDHasN .i64 8 v 3 3 b (spDHasN .i64 8 v 2 3 b (spDn .i64 8 b (spDn .i16 2 b (spDn .i32 4 b s).2).2).2).2).2).2)
theorem spfrPD_ok {v : Int} {b : List Int} {s : DeS} (h : spDok b s.2 = true) : spDok b (spfrPD v b s).2.2 = true := by
  unfold spfrPD
  exact spDBlob_ok (spDHasN_ok (spDHasN_ok (spDn_ok _ _ (spDn_ok _ _ (spDn_ok _ _ (h))))))
abbrev iodfrPart : Io := ⟨[.ptr 0 0], oDec1, [], [.dat tfrPart true false], none⟩
def FdfrPart (d : iodfrPart.In) : Tr iodfrPart.Res := .ite (spDok d.2.2.2.1.1 d.2.2.2.1.2.1) (.ret (.ret (((spfrPD d.2.2.1.2.1 d.2.2.2.1.1 (decSt d.2.2)).1, ()), decOut1 d.2.2.1.2.1 d.2.2.2.1.1 (spfrPD d.2.2.1.2.1 d.2.2.2.1.1 (decSt d.2.2)).2))) .no
abbrev csdfrPart : List (Nat × Hc) := [(113, ioHd iodBlob FdBlob), (87, ioHd iodI16 FdI16), (81, ioHd iodI32 FdI32), (89, ioHd iodI64 FdI64), (80, ioHd iodHas FdHas)]
def hddfrPart : Hd := hdT csdfrPart
def lpdfrPart : Lp := lpT []
def bodydfrPart (a0 : Int) (a1 : Int) (a2 : List Int) (a3 : Int) : Option iodfrPart.Res := bif spDok a2 a3 then bif spDok a2 (spDn IntKind.i32 4 a2 (a1, a3)).snd.snd then bif spDok a2 (spDn IntKind.i16 2 a2 (spDn IntKind.i32 4 a2 (a1, a3)).snd).snd.snd then bif spDHas a0 2 3 (spDn IntKind.i64 8 a2 (spDn IntKind.i16 2 a2 (spDn IntKind.i32 4 a2 (a1, a3)).snd).snd).snd.fst then bif spDok a2 (spDn IntKind.i64 8 a2 (spDn IntKind.i16 2 a2 (spDn IntKind.i32 4 a2 (a1, a3)).snd).snd).snd.snd then bif spDHas a0 3 3 (spDn IntKind.i64 8 a2 (spDn IntKind.i64 8 a2 (spDn IntKind.i16 2 a2 (spDn IntKind.i32 4 a2 (a1, a3)).snd).snd).snd).snd.fst then bif spDok a2 (spDn IntKind.i64 8 a2 (spDn IntKind.i64 8 a2 (spDn IntKind.i16 2 a2 (spDn IntKind.i32 4 a2 (a1, a3)).snd).snd).snd).snd.snd then bif spDok a2 (spDn IntKind.i64 8 a2 (spDn IntKind.i64 8 a2 (spDn IntKind.i64 8 a2 (spDn IntKind.i16 2 a2 (spDn IntKind.i32 4 a2 (a1, a3)).snd).snd).snd).snd).snd.snd then some (Out.ret ((((spDn IntKind.i32 4 a2 (a1, a3)).fst, (spDn IntKind.i16 2 a2 (spDn IntKind.i32 4 a2 (a1, a3)).snd).fst, (spDn IntKind.i64 8 a2 (spDn IntKind.i16 2 a2 (spDn IntKind.i32 4 a2 (a1, a3)).snd).snd).fst, (spDn IntKind.i64 8 a2 (spDn IntKind.i64 8 a2 (spDn IntKind.i16 2 a2 (spDn IntKind.i32 4 a2 (a1, a3)).snd).snd).snd).fst, (spDn IntKind.i64 8 a2 (spDn IntKind.i64 8 a2 (spDn IntKind.i64 8 a2 (spDn IntKind.i16 2 a2 (spDn IntKind.i32 4 a2 (a1, a3)).snd).snd).snd).snd).fst, (spDBlob a2 (spDn IntKind.i64 8 a2 (spDn IntKind.i64 8 a2 (spDn IntKind.i64 8 a2 (spDn IntKind.i16 2 a2 (spDn IntKind.i32 4 a2 (a1, a3)).snd).snd).snd).snd).snd).fst, ()), ()), ((), ()), ((), a0, (spDBlob a2 (spDn IntKind.i64 8 a2 (spDn IntKind.i64 8 a2 (spDn IntKind.i64 8 a2 (spDn IntKind.i16 2 a2 (spDn IntKind.i32 4 a2 (a1, a3)).snd).snd).snd).snd).snd).snd.fst, ()), (a2, (spDBlob a2 (spDn IntKind.i64 8 a2 (spDn IntKind.i64 8 a2 (spDn IntKind.i64 8 a2 (spDn IntKind.i16 2 a2 (spDn IntKind.i32 4 a2 (a1, a3)).snd).snd).snd).snd).snd).snd.snd, ()), ())) else none else none else bif spDok a2 (spDn IntKind.i64 8 a2 (spDn IntKind.i64 8 a2 (spDn IntKind.i16 2 a2 (spDn IntKind.i32 4 a2 (a1, a3)).snd).snd).snd).snd.snd then some (Out.ret ((((spDn IntKind.i32 4 a2 (a1, a3)).fst, (spDn IntKind.i16 2 a2 (spDn IntKind.i32 4 a2 (a1, a3)).snd).fst, (spDn IntKind.i64 8 a2 (spDn IntKind.i16 2 a2 (spDn IntKind.i32 4 a2 (a1, a3)).snd).snd).fst, (spDn IntKind.i64 8 a2 (spDn IntKind.i64 8 a2 (spDn IntKind.i16 2 a2 (spDn IntKind.i32 4 a2 (a1, a3)).snd).snd).snd).fst, 0, (spDBlob a2 (spDn IntKind.i64 8 a2 (spDn IntKind.i64 8 a2 (spDn IntKind.i16 2 a2 (spDn IntKind.i32 4 a2 (a1, a3)).snd).snd).snd).snd).fst, ()), ()), ((), ()), ((), a0, (spDBlob a2 (spDn IntKind.i64 8 a2 (spDn IntKind.i64 8 a2 (spDn IntKind.i16 2 a2 (spDn IntKind.i32 4 a2 (a1, a3)).snd).snd).snd).snd).snd.fst, ()), (a2, (spDBlob a2 (spDn IntKind.i64 8 a2 (spDn IntKind.i64 8 a2 (spDn IntKind.i16 2 a2 (spDn IntKind.i32 4 a2 (a1, a3)).snd).snd).snd).snd).snd.snd, ()), ())) else none else none else bif spDHas a0 3 3 (spDn IntKind.i64 8 a2 (spDn IntKind.i16 2 a2 (spDn IntKind.i32 4 a2 (a1, a3)).snd).snd).snd.fst then bif spDok a2 (spDn IntKind.i64 8 a2 (spDn IntKind.i16 2 a2 (spDn IntKind.i32 4 a2 (a1, a3)).snd).snd).snd.snd then bif spDok a2 (spDn IntKind.i64 8 a2 (spDn IntKind.i64 8 a2 (spDn IntKind.i16 2 a2 (spDn IntKind.i32 4 a2 (a1, a3)).snd).snd).snd).snd.snd then some (Out.ret ((((spDn IntKind.i32 4 a2 (a1, a3)).fst, (spDn IntKind.i16 2 a2 (spDn IntKind.i32 4 a2 (a1, a3)).snd).fst, (spDn IntKind.i64 8 a2 (spDn IntKind.i16 2 a2 (spDn IntKind.i32 4 a2 (a1, a3)).snd).snd).fst, 0, (spDn IntKind.i64 8 a2 (spDn IntKind.i64 8 a2 (spDn IntKind.i16 2 a2 (spDn IntKind.i32 4 a2 (a1, a3)).snd).snd).snd).fst, (spDBlob a2 (spDn IntKind.i64 8 a2 (spDn IntKind.i64 8 a2 (spDn IntKind.i16 2 a2 (spDn IntKind.i32 4 a2 (a1, a3)).snd).snd).snd).snd).fst, ()), ()), ((), ()), ((), a0, (spDBlob a2 (spDn IntKind.i64 8 a2 (spDn IntKind.i64 8 a2 (spDn IntKind.i16 2 a2 (spDn IntKind.i32 4 a2 (a1, a3)).snd).snd).snd).snd).snd.fst, ()), (a2, (spDBlob a2 (spDn IntKind.i64 8 a2 (spDn IntKind.i64 8 a2 (spDn IntKind.i16 2 a2 (spDn IntKind.i32 4 a2 (a1, a3)).snd).snd).snd).snd).snd.snd, ()), ())) else none else none else bif spDok a2 (spDn IntKind.i64 8 a2 (spDn IntKind.i16 2 a2 (spDn IntKind.i32 4 a2 (a1, a3)).snd).snd).snd.snd then some (Out.ret ((((spDn IntKind.i32 4 a2 (a1, a3)).fst, (spDn IntKind.i16 2 a2 (spDn IntKind.i32 4 a2 (a1, a3)).snd).fst, (spDn IntKind.i64 8 a2 (spDn IntKind.i16 2 a2 (spDn IntKind.i32 4 a2 (a1, a3)).snd).snd).fst, 0, 0, (spDBlob a2 (spDn IntKind.i64 8 a2 (spDn IntKind.i16 2 a2 (spDn IntKind.i32 4 a2 (a1, a3)).snd).snd).snd).fst, ()), ()), ((), ()), ((), a0, (spDBlob a2 (spDn IntKind.i64 8 a2 (spDn IntKind.i16 2 a2 (spDn IntKind.i32 4 a2 (a1, a3)).snd).snd).snd).snd.fst, ()), (a2, (spDBlob a2 (spDn IntKind.i64 8 a2 (spDn IntKind.i16 2 a2 (spDn IntKind.i32 4 a2 (a1, a3)).snd).snd).snd).snd.snd, ()), ())) else none else none else none else none
theorem rundfrPart (a0 : Int) (a1 : Int) (a2 : List Int) (a3 : Int) : Io.run tt hddfrPart dr lpdfrPart iodfrPart Go.Proofs.Tryz.f112 (((), ()), ((), ()), ((), a0, a1, ()), (a2, a3, ()), ()) = bodydfrPart a0 a1 a2 a3 := by kernel_rfl
theorem okdfrPart : HcOk prog 112 (ioHd iodfrPart FdfrPart) := by
  refine fn_sound (n := 400) hm (cs := csdfrPart) (.cons okdBlob (.cons okdI16 (.cons okdI32 (.cons okdI64 (.cons okdHas .nil))))) (lp := lpdfrPart) (fn := Go.Proofs.Tryz.f112) (by kernel_rfl) (by kernel_rfl) (by kernel_rfl) iodfrPart (.done (by kernel_rfl)) FdfrPart ?_
  rintro ⟨⟨⟨⟩, ⟨⟩⟩, ⟨⟨⟩, ⟨⟩⟩, ⟨⟨⟩, (v : Int), (e : Int), ⟨⟩⟩, ⟨(b : List Int), (p : Int), ⟨⟩⟩, ⟨⟩⟩ out hw ho
  obtain ⟨hg, ho⟩ := Tr.guard ho
  have hg : spDok b p = true := hg
  cases ho
  refine (rundfrPart v e b p).trans ?_
  unfold bodydfrPart
  show _ = some (Out.ret (((spfrPD v b (e, p)).1, ()), decOut1 v b (spfrPD v b (e, p)).2))
  unfold spfrPD
  have hg : spDok b ((e, p) : DeS).2 = true := hg
  refine (bif_true hg _ _).trans ?_
  have g0 : spDok b (spDn .i32 4 b ((e, p) : DeS)).2.2 = true := spDn_ok .i32 4 (s := ((e, p) : DeS)) hg
  refine (bif_true g0 _ _).trans ?_
  have g1 : spDok b (spDn .i16 2 b (spDn .i32 4 b ((e, p) : DeS)).2).2.2 = true := spDn_ok .i16 2 (s := (spDn .i32 4 b ((e, p) : DeS)).2) g0
  refine (bif_true g1 _ _).trans ?_
  have g2 : spDok b (spDn .i64 8 b (spDn .i16 2 b (spDn .i32 4 b ((e, p) : DeS)).2).2).2.2 = true := spDn_ok .i64 8 (s := (spDn .i16 2 b (spDn .i32 4 b ((e, p) : DeS)).2).2) g1
  show (bif spDHas v 2 3 (spDn .i64 8 b (spDn .i16 2 b (spDn .i32 4 b ((e, p) : DeS)).2).2).2.1 then _ else _) = _
  cases h3 : spDHas v 2 3 (spDn .i64 8 b (spDn .i16 2 b (spDn .i32 4 b ((e, p) : DeS)).2).2).2.1
  · have e3 : spDHasN .i64 8 v 2 3 b (spDn .i64 8 b (spDn .i16 2 b (spDn .i32 4 b ((e, p) : DeS)).2).2).2 = (0, (spDn .i64 8 b (spDn .i16 2 b (spDn .i32 4 b ((e, p) : DeS)).2).2).2) := by unfold spDHasN; rw [if_neg (by rw [h3]; decide)]
    rw [e3]
    show (bif spDHas v 3 3 (spDn .i64 8 b (spDn .i16 2 b (spDn .i32 4 b ((e, p) : DeS)).2).2).2.1 then _ else _) = _
    cases hf4 : spDHas v 3 3 (spDn .i64 8 b (spDn .i16 2 b (spDn .i32 4 b ((e, p) : DeS)).2).2).2.1
    · have ef4 : spDHasN .i64 8 v 3 3 b (spDn .i64 8 b (spDn .i16 2 b (spDn .i32 4 b ((e, p) : DeS)).2).2).2 = (0, (spDn .i64 8 b (spDn .i16 2 b (spDn .i32 4 b ((e, p) : DeS)).2).2).2) := by unfold spDHasN; rw [if_neg (by rw [hf4]; decide)]
      rw [ef4]
      refine (bif_true g2 _ _).trans ?_
      have gff5 : spDok b (spDBlob b (spDn .i64 8 b (spDn .i16 2 b (spDn .i32 4 b ((e, p) : DeS)).2).2).2).2.2 = true := spDBlob_ok (s := (spDn .i64 8 b (spDn .i16 2 b (spDn .i32 4 b ((e, p) : DeS)).2).2).2) g2
      rfl
    · have ef4 : spDHasN .i64 8 v 3 3 b (spDn .i64 8 b (spDn .i16 2 b (spDn .i32 4 b ((e, p) : DeS)).2).2).2 = spDn .i64 8 b (spDn .i64 8 b (spDn .i16 2 b (spDn .i32 4 b ((e, p) : DeS)).2).2).2 := by unfold spDHasN; rw [if_pos hf4]
      rw [ef4]
      refine (bif_true g2 _ _).trans ?_
      have gf4 : spDok b (spDn .i64 8 b (spDn .i64 8 b (spDn .i16 2 b (spDn .i32 4 b ((e, p) : DeS)).2).2).2).2.2 = true := spDn_ok .i64 8 (s := (spDn .i64 8 b (spDn .i16 2 b (spDn .i32 4 b ((e, p) : DeS)).2).2).2) g2
      refine (bif_true gf4 _ _).trans ?_
      have gft5 : spDok b (spDBlob b (spDn .i64 8 b (spDn .i64 8 b (spDn .i16 2 b (spDn .i32 4 b ((e, p) : DeS)).2).2).2).2).2.2 = true := spDBlob_ok (s := (spDn .i64 8 b (spDn .i64 8 b (spDn .i16 2 b (spDn .i32 4 b ((e, p) : DeS)).2).2).2).2) gf4
      rfl
  · have e3 : spDHasN .i64 8 v 2 3 b (spDn .i64 8 b (spDn .i16 2 b (spDn .i32 4 b ((e, p) : DeS)).2).2).2 = spDn .i64 8 b (spDn .i64 8 b (spDn .i16 2 b (spDn .i32 4 b ((e, p) : DeS)).2).2).2 := by unfold spDHasN; rw [if_pos h3]
    rw [e3]
    refine (bif_true g2 _ _).trans ?_
    have g3 : spDok b (spDn .i64 8 b (spDn .i64 8 b (spDn .i16 2 b (spDn .i32 4 b ((e, p) : DeS)).2).2).2).2.2 = true := spDn_ok .i64 8 (s := (spDn .i64 8 b (spDn .i16 2 b (spDn .i32 4 b ((e, p) : DeS)).2).2).2) g2
    show (bif spDHas v 3 3 (spDn .i64 8 b (spDn .i64 8 b (spDn .i16 2 b (spDn .i32 4 b ((e, p) : DeS)).2).2).2).2.1 then _ else _) = _
    cases ht4 : spDHas v 3 3 (spDn .i64 8 b (spDn .i64 8 b (spDn .i16 2 b (spDn .i32 4 b ((e, p) : DeS)).2).2).2).2.1
    · have et4 : spDHasN .i64 8 v 3 3 b (spDn .i64 8 b (spDn .i64 8 b (spDn .i16 2 b (spDn .i32 4 b ((e, p) : DeS)).2).2).2).2 = (0, (spDn .i64 8 b (spDn .i64 8 b (spDn .i16 2 b (spDn .i32 4 b ((e, p) : DeS)).2).2).2).2) := by unfold spDHasN; rw [if_neg (by rw [ht4]; decide)]
      rw [et4]
      refine (bif_true g3 _ _).trans ?_
      have gtf5 : spDok b (spDBlob b (spDn .i64 8 b (spDn .i64 8 b (spDn .i16 2 b (spDn .i32 4 b ((e, p) : DeS)).2).2).2).2).2.2 = true := spDBlob_ok (s := (spDn .i64 8 b (spDn .i64 8 b (spDn .i16 2 b (spDn .i32 4 b ((e, p) : DeS)).2).2).2).2) g3
      rfl
    · have et4 : spDHasN .i64 8 v 3 3 b (spDn .i64 8 b (spDn .i64 8 b (spDn .i16 2 b (spDn .i32 4 b ((e, p) : DeS)).2).2).2).2 = spDn .i64 8 b (spDn .i64 8 b (spDn .i64 8 b (spDn .i16 2 b (spDn .i32 4 b ((e, p) : DeS)).2).2).2).2 := by unfold spDHasN; rw [if_pos ht4]
      rw [et4]
      refine (bif_true g3 _ _).trans ?_
      have gt4 : spDok b (spDn .i64 8 b (spDn .i64 8 b (spDn .i64 8 b (spDn .i16 2 b (spDn .i32 4 b ((e, p) : DeS)).2).2).2).2).2.2 = true := spDn_ok .i64 8 (s := (spDn .i64 8 b (spDn .i64 8 b (spDn .i16 2 b (spDn .i32 4 b ((e, p) : DeS)).2).2).2).2) g3
      refine (bif_true gt4 _ _).trans ?_
      have gtt5 : spDok b (spDBlob b (spDn .i64 8 b (spDn .i64 8 b (spDn .i64 8 b (spDn .i16 2 b (spDn .i32 4 b ((e, p) : DeS)).2).2).2).2).2).2.2 = true := spDBlob_ok (s := (spDn .i64 8 b (spDn .i64 8 b (spDn .i64 8 b (spDn .i16 2 b (spDn .i32 4 b ((e, p) : DeS)).2).2).2).2).2) gt4
      rfl
@[irreducible] noncomputable def spfrPsD (v : Int) (b : List Int) (s : DeS) : List tfrPart.den × DeS := spList (spfrPD v b) b s
theorem spfrPsD_ok {v : Int} {b : List Int} {s : DeS} (h : spDok b s.2 = true) : spDok b (spfrPsD v b s).2.2 = true := by
  unfold spfrPsD
  exact spList_ok (fun s h => spfrPD_ok h) h
abbrev iodfrParts : Io := ⟨[.ptr 0 0, .fnc 112 false [2]], oDecC, [], [.dat (.sl 173 tfrPart) false false], none⟩
def FdfrParts (d : iodfrParts.In) : Tr iodfrParts.Res := .ite (spDok d.2.2.1.1 d.2.2.1.2.1) (.ret (.ret (((spfrPsD d.2.1.2.1 d.2.2.1.1 (decStC d.2)).1, ()), decOutC d.2.1.2.1 d.2.2.1.1 (spfrPsD d.2.1.2.1 d.2.2.1.1 (decStC d.2)).2))) .no
abbrev csdfrParts : List (Nat × Hc) := [(81, ioHd iodI32 FdI32), (112, ioHd iodfrPart FdfrPart)]
def hddfrParts : Hd := hdT csdfrParts
abbrev lodfrParts_10 : Lo := ⟨⟨[.one (.ptr 0 0), .one (.fnp 112 false [2]), .any, .any, .any, .one (.hol (.int IntKind.i32)), .one (.onl 173 tfrPart 19), .one (.hol (.int IntKind.i32)), .any, .any, .any, .any, .any, .any, .any, .any, .any, .any, .any, .any, .any, .any, .any, .any, .any, .any, .any, .any, .any, .any, .any, .any, .any, .any, .any, .any, .any, .any, .any, .any, .any, .any, .any, .any, .any, .any], [some [.ptr 1 0, .hol (.int IntKind.i64), .hol (.int IntKind.i64)], some [.hol (.sl 5 (Ty.int IntKind.u8)), .hol (.int IntKind.i64)], some [.ptr 0 0]]⟩, [(.exit 1, ⟨[.any, .any, .any, .any, .any, .any, .one (.onl 173 tfrPart 19), .any, .any, .any, .any, .any, .any, .any, .any, .any, .any, .any, .any, .any, .any, .any, .any, .any, .any, .any, .any, .any, .any, .any, .any, .any, .any, .any, .any, .any, .any, .any, .any, .any, .any, .any, .any, .any, .any, .any], [some [.ptr 1 0, .hol (.int IntKind.i64), .hol (.int IntKind.i64)], some [.hol (.sl 5 (Ty.int IntKind.u8)), .hol (.int IntKind.i64)], some [.ptr 0 0]]⟩)]⟩
-- FdfrParts_10 : lodfrParts_10.st.den → Tr (DenX lodfrParts_10.xs) | ((h4, (h5, (h6, ()))), ((h7, (h8, ())), ((h9, (h10, ())), ((), ()))))
def FdfrParts_10 (d : lodfrParts_10.st.den) : Tr (DenX lodfrParts_10.xs) :=
  .ite (decide (d.1.2.2.1 = 0) && (decide (d.1.2.1.length = 0) && (spDok d.2.2.1.1 d.2.2.1.2.1 && (decide (d.1.1 ≤ (16 : Int)) || decide (d.2.1.2.1 ≠ 0))))) (.ret (.ret ((), (((spRep (spfrPD d.2.1.1 d.2.2.1.1) d.1.1.toNat (d.2.1.2.1, d.2.2.1.2.1)).1, ()), decOutB d.2.1.1 d.2.2.1.1 (spRep (spfrPD d.2.1.1 d.2.2.1.1) d.1.1.toNat (d.2.1.2.1, d.2.2.1.2.1)).2)))) .no
def lpdfrParts : Lp := lpT [(10, loHd lodfrParts_10 FdfrParts_10)]
def stepdfrParts_10 {R : Type} (h4 : Int) (h5 : List tfrPart.den) (h6 : Int) (h7 : Int) (h8 : Int) (h9 : List Int) (h10 : Int) (next : Int → List tfrPart.den → Int → Int → Int → List Int → Int → Option R) (out : DenX lodfrParts_10.xs → Option R) : Option R := bif decide (h6 < h4) then bif h8 == 0 then bif spDok h9 h10 then bif decide (h5.length + 1 ≤ 4294967296) then next (h4) (h5 ++ [(spfrPD h7 h9 (h8, h10)).fst]) (IntKind.i32.wrap (h6 + 1)) (h7) ((spfrPD h7 h9 (h8, h10)).snd.fst) (h9) ((spfrPD h7 h9 (h8, h10)).snd.snd) else none else none else out (.ret ((), ((h5, ()), ((h7, (h8, ())), ((h9, (h10, ())), ((), ())))))) else out (.ret ((), ((h5, ()), ((h7, (h8, ())), ((h9, (h10, ())), ((), ()))))))
def itdfrParts_10 (n : Nat) (h4 : Int) (h5 : List tfrPart.den) (h6 : Int) (h7 : Int) (h8 : Int) (h9 : List Int) (h10 : Int) : Option (DenX lodfrParts_10.xs) := lpN tt hddfrParts dr lpdfrParts 3 Go.Proofs.Tryz.f111 (topL Go.Proofs.Tryz.f111 0) n (lodfrParts_10.st.mk' ((h4, (h5, (h6, ()))), ((h7, (h8, ())), ((h9, (h10, ())), ((), ()))))) (decX lodfrParts_10.xs)
theorem sldfrParts_10 (n : Nat) (h4 : Int) (h5 : List tfrPart.den) (h6 : Int) (h7 : Int) (h8 : Int) (h9 : List Int) (h10 : Int) : itdfrParts_10 (n + 1) h4 h5 h6 h7 h8 h9 h10 = stepdfrParts_10 h4 h5 h6 h7 h8 h9 h10 (itdfrParts_10 n) some := by kernel_rfl
theorem loopdfrParts (n v : Int) (b : List Int) : ∀ (k j : Nat) (xs : List tfrPart.den) (s : DeS), n.toNat < j + k → j ≤ n.toNat → xs.length = j → spDok b s.2 = true → (s.1 = 0 → n ≤ 16) →
    itdfrParts_10 k n xs j v s.1 b s.2 = some (.ret ((), ((xs ++ (spRep (spfrPD v b) (n.toNat - j) s).1, ()), decOutB v b (spRep (spfrPD v b) (n.toNat - j) s).2))) := by
  intro k
  induction k with
  | zero => intro j xs s h; omega
  | succ k ih =>
    intro j xs s h1 h2 h3 h4 h5
    rw [sldfrParts_10]
    unfold stepdfrParts_10
    by_cases hj : (j : Int) < n
    · refine (bif_true (by simpa using hj) _ _).trans ?_
      obtain ⟨m, hm⟩ : ∃ m, n.toNat - j = m + 1 := ⟨n.toNat - j - 1, by omega⟩
      rw [hm]
      by_cases he : s.1 = 0
      · refine (bif_true (by simpa using he) _ _).trans ?_
        have hn := h5 he
        refine (bif_true h4 _ _).trans ?_
        refine (bif_true (decide_eq_true (show xs.length + 1 ≤ 4294967296 by omega)) _ _).trans ?_
        have hw : IntKind.i32.wrap ((j : Int) + 1) = ((j + 1 : Nat) : Int) := wrap_id (by simp [inR, IntKind.min, IntKind.max, IntKind.signed, IntKind.bits]; omega)
        rw [hw]
        refine (ih (j + 1) (xs ++ [(spfrPD v b s).1]) (spfrPD v b s).2 (by omega) (by omega) (by simp [h3]) (spfrPD_ok h4) (fun _ => hn)).trans ?_
        rw [show n.toNat - (j + 1) = m by omega, spRep, if_pos he]
        simp
      · refine (bif_false (by simpa using he) _ _).trans ?_
        rw [spRep, if_neg he]
        simp
    · refine (bif_false (by simpa using hj) _ _).trans ?_
      rw [show n.toNat - j = 0 by omega, spRep]
      simp
def bodydfrParts (a0 : Int) (a1 : Int) (a2 : List Int) (a3 : Int) : Option iodfrParts.Res := bif spDok a2 a3 then bif (spDn IntKind.i32 4 a2 (a1, a3)).snd.fst != 0 then (FdfrParts_10 (((spDn IntKind.i32 4 a2 (a1, a3)).fst, ([], (0, ()))), ((a0, ((spDn IntKind.i32 4 a2 (a1, a3)).snd.fst, ())), ((a2, ((spDn IntKind.i32 4 a2 (a1, a3)).snd.snd, ())), ((), ()))))).run fun y => match y with | .ret ((), ((x28, ()), (x29, x30, ()), (x31, x32, ()), (), ())) => (some (Out.ret ((x28, ()), ((), x29, x30, ()), (x31, x32, ()), ((), ()), ()))) else bif decide ((spDn IntKind.i32 4 a2 (a1, a3)).fst < 0) then (FdfrParts_10 (((spDn IntKind.i32 4 a2 (a1, a3)).fst, ([], (0, ()))), ((a0, (5, ())), ((a2, ((spDn IntKind.i32 4 a2 (a1, a3)).snd.snd, ())), ((), ()))))).run fun y => match y with | .ret ((), ((x40, ()), (x41, x42, ()), (x43, x44, ()), (), ())) => (some (Out.ret ((x40, ()), ((), x41, x42, ()), (x43, x44, ()), ((), ()), ()))) else bif decide (16 < (spDn IntKind.i32 4 a2 (a1, a3)).fst) then (FdfrParts_10 (((spDn IntKind.i32 4 a2 (a1, a3)).fst, ([], (0, ()))), ((a0, (9, ())), ((a2, ((spDn IntKind.i32 4 a2 (a1, a3)).snd.snd, ())), ((), ()))))).run fun y => match y with | .ret ((), ((x52, ()), (x53, x54, ()), (x55, x56, ()), (), ())) => (some (Out.ret ((x52, ()), ((), x53, x54, ()), (x55, x56, ()), ((), ()), ()))) else (FdfrParts_10 (((spDn IntKind.i32 4 a2 (a1, a3)).fst, ([], (0, ()))), ((a0, ((spDn IntKind.i32 4 a2 (a1, a3)).snd.fst, ())), ((a2, ((spDn IntKind.i32 4 a2 (a1, a3)).snd.snd, ())), ((), ()))))).run fun y => match y with | .ret ((), ((x64, ()), (x65, x66, ()), (x67, x68, ()), (), ())) => (some (Out.ret ((x64, ()), ((), x65, x66, ()), (x67, x68, ()), ((), ()), ()))) else none
theorem rundfrParts (a0 : Int) (a1 : Int) (a2 : List Int) (a3 : Int) : Io.run tt hddfrParts dr lpdfrParts iodfrParts Go.Proofs.Tryz.f111 (((), (), ()), ((), a0, a1, ()), (a2, a3, ()), ((), ()), ()) = bodydfrParts a0 a1 a2 a3 := by kernel_rfl
theorem okdfrParts : HcOk prog 111 (ioHd iodfrParts FdfrParts) := by
  refine fn_sound (n := 400) hm (cs := csdfrParts) (.cons okdI32 (.cons okdfrPart .nil)) (lp := lpdfrParts) (fn := Go.Proofs.Tryz.f111) (by kernel_rfl) (by kernel_rfl) (by kernel_rfl) iodfrParts (.step (h0 := loHd lodfrParts_10 FdfrParts_10) (by kernel_rfl) (loop_sound (n := 400) hm (cs := csdfrParts) (.cons okdI32 (.cons okdfrPart .nil)) (lp := lpdfrParts) (fn := Go.Proofs.Tryz.f111) (.done (by kernel_rfl)) lodfrParts_10 FdfrParts_10 ?_) (.done (by kernel_rfl))) FdfrParts ?_
  · rintro ⟨⟨(n : Int), (xs : List tfrPart.den), (i : Int), ⟨⟩⟩, ⟨⟨(v : Int), (e : Int), ⟨⟩⟩, ⟨(b : List Int), (p : Int), ⟨⟩⟩, ⟨⟨⟩, ⟨⟩⟩⟩⟩ y hw hy
    obtain ⟨hg, hy⟩ := Tr.guard hy
    simp only [Bool.and_eq_true, decide_eq_true_eq, Bool.or_eq_true] at hg
    obtain ⟨h1, h2, h3, h4⟩ := hg
    have h1 : i = 0 := h1
    have h2 : xs = [] := List.eq_nil_of_length_eq_zero h2
    have h3 : spDok b p = true := h3
    have h4 : n ≤ 16 ∨ e ≠ 0 := h4
    subst h1
    subst h2
    refine ⟨n.toNat + 1, (loopdfrParts n v b (n.toNat + 1) 0 [] (e, p) (by omega) (by omega) rfl h3 (fun he => h4.resolve_right (fun h => h he))).trans ?_⟩
    rw [← hy]; rfl
  · rintro ⟨⟨⟨⟩, ⟨⟩, ⟨⟩⟩, ⟨⟨⟩, (v : Int), (e : Int), ⟨⟩⟩, ⟨(b : List Int), (p : Int), ⟨⟩⟩, ⟨⟨⟩, ⟨⟩⟩, ⟨⟩⟩ out hw ho
    obtain ⟨hg, ho⟩ := Tr.guard ho
    have hg : spDok b p = true := hg
    cases ho
    refine (rundfrParts v e b p).trans ?_
    unfold bodydfrParts
    show _ = some (Out.ret (((spfrPsD v b (e, p)).1, ()), decOutC v b (spfrPsD v b (e, p)).2))
    unfold spfrPsD spList
    refine (bif_true hg _ _).trans ?_
    have hr : spDok b (spDn .i32 4 b (e, p)).2.2 = true := spDn_ok .i32 4 (s := (e, p)) hg
    generalize spDn .i32 4 b (e, p) = r at hr ⊢
    obtain ⟨n, e1, q⟩ := r
    have hr : spDok b q = true := hr
    have key : ∀ e' : Int, (e' = 0 → n ≤ 16) → FdfrParts_10 ((n, ([], (0, ()))), ((v, (e', ())), ((b, (q, ())), ((), ())))) = .ite true (.ret (.ret ((), (((spRep (spfrPD v b) n.toNat (e', q)).1, ()), decOutB v b (spRep (spfrPD v b) n.toNat (e', q)).2)))) .no := by
      intro e' he
      refine congrArg (fun c => Tr.ite c _ _) ?_
      show (decide ((0 : Int) = 0) && (decide (([] : List tfrPart.den).length = 0) && (spDok b q && (decide (n ≤ 16) || decide (e' ≠ 0))))) = true
      rw [hr]
      by_cases h : e' = 0
      · simp [he h]
      · simp [h]
    unfold spLen
    show (bif e1 != 0 then _ else _) = _
    by_cases h1 : e1 = 0
    · refine (bif_false (by simpa using h1) _ _).trans ?_
      show (bif decide (n < 0) then _ else _) = _
      rw [if_pos h1]
      by_cases h2 : n < 0
      · refine (bif_true (by simpa using h2) _ _).trans ?_
        show (FdfrParts_10 ((n, ([], (0, ()))), ((v, (5, ())), ((b, (q, ())), ((), ()))))).run _ = _
        rw [key 5 (by omega), if_pos h2]
        rfl
      · refine (bif_false (by simpa using h2) _ _).trans ?_
        show (bif decide (16 < n) then _ else _) = _
        rw [if_neg h2]
        by_cases h3 : 16 < n
        · refine (bif_true (by simpa using h3) _ _).trans ?_
          show (FdfrParts_10 ((n, ([], (0, ()))), ((v, (9, ())), ((b, (q, ())), ((), ()))))).run _ = _
          rw [key 9 (by omega), if_pos h3]
          rfl
        · refine (bif_false (by simpa using h3) _ _).trans ?_
          show (FdfrParts_10 ((n, ([], (0, ()))), ((v, (e1, ())), ((b, (q, ())), ((), ()))))).run _ = _
          rw [key e1 (by omega), if_neg h3]
          rfl
    · refine (bif_true (by simpa using h1) _ _).trans ?_
      show (FdfrParts_10 ((n, ([], (0, ()))), ((v, (e1, ())), ((b, (q, ())), ((), ()))))).run _ = _
      rw [key e1 (fun h => absurd h h1), if_neg h1]
      rfl
@[irreducible] noncomputable def spfrTD (v : Int) (b : List Int) (s : DeS) : tfrTopic.den × DeS := (((spDStr b s).1, ((spfrPsD v b (spDStr b s).2).1, ())), (spfrPsD v b (spDStr b s).2).2)
theorem spfrTD_ok {v : Int} {b : List Int} {s : DeS} (h : spDok b s.2 = true) : spDok b (spfrTD v b s).2.2 = true := by
  unfold spfrTD
  exact spfrPsD_ok (spDStr_ok h)
abbrev iodfrTopic : Io := ⟨[.ptr 0 0], oDec1, [], [.dat tfrTopic true false], none⟩
def FdfrTopic (d : iodfrTopic.In) : Tr iodfrTopic.Res := .ite (spDok d.2.2.2.1.1 d.2.2.2.1.2.1) (.ret (.ret (((spfrTD d.2.2.1.2.1 d.2.2.2.1.1 (decSt d.2.2)).1, ()), decOut1 d.2.2.1.2.1 d.2.2.2.1.1 (spfrTD d.2.2.1.2.1 d.2.2.2.1.1 (decSt d.2.2)).2))) .no
abbrev csdfrTopic : List (Nat × Hc) := [(84, ioHd iodStr FdStr), (111, ioHd iodfrParts FdfrParts)]
def hddfrTopic : Hd := hdT csdfrTopic
def lpdfrTopic : Lp := lpT []
def bodydfrTopic (a0 : Int) (a1 : Int) (a2 : List Int) (a3 : Int) : Option iodfrTopic.Res := bif spDok a2 a3 then bif spDok a2 (spDStr a2 (a1, a3)).snd.snd then some (Out.ret ((((spDStr a2 (a1, a3)).fst, (spfrPsD a0 a2 (spDStr a2 (a1, a3)).snd).fst, ()), ()), ((), ()), ((), a0, (spfrPsD a0 a2 (spDStr a2 (a1, a3)).snd).snd.fst, ()), (a2, (spfrPsD a0 a2 (spDStr a2 (a1, a3)).snd).snd.snd, ()), ())) else none else none
theorem rundfrTopic (a0 : Int) (a1 : Int) (a2 : List Int) (a3 : Int) : Io.run tt hddfrTopic dr lpdfrTopic iodfrTopic Go.Proofs.Tryz.f110 (((), ()), ((), ()), ((), a0, a1, ()), (a2, a3, ()), ()) = bodydfrTopic a0 a1 a2 a3 := by kernel_rfl
theorem okdfrTopic : HcOk prog 110 (ioHd iodfrTopic FdfrTopic) := by
  refine fn_sound (n := 400) hm (cs := csdfrTopic) (.cons okdStr (.cons okdfrParts .nil)) (lp := lpdfrTopic) (fn := Go.Proofs.Tryz.f110) (by kernel_rfl) (by kernel_rfl) (by kernel_rfl) iodfrTopic (.done (by kernel_rfl)) FdfrTopic ?_
  rintro ⟨⟨⟨⟩, ⟨⟩⟩, ⟨⟨⟩, ⟨⟩⟩, ⟨⟨⟩, (v : Int), (e : Int), ⟨⟩⟩, ⟨(b : List Int), (p : Int), ⟨⟩⟩, ⟨⟩⟩ out hw ho
  obtain ⟨hg, ho⟩ := Tr.guard ho
  have hg : spDok b p = true := hg
  cases ho
  refine (rundfrTopic v e b p).trans ?_
  unfold bodydfrTopic
  show _ = some (Out.ret (((spfrTD v b (e, p)).1, ()), decOut1 v b (spfrTD v b (e, p)).2))
  unfold spfrTD
  refine (bif_true hg _ _).trans ?_
  exact bif_true (spDStr_ok (s := (e, p)) hg) _ _
@[irreducible] noncomputable def spfrTsD (v : Int) (b : List Int) (s : DeS) : List tfrTopic.den × DeS := spList (spfrTD v b) b s
theorem spfrTsD_ok {v : Int} {b : List Int} {s : DeS} (h : spDok b s.2 = true) : spDok b (spfrTsD v b s).2.2 = true := by
  unfold spfrTsD
  exact spList_ok (fun s h => spfrTD_ok h) h
abbrev iodfrTopics : Io := ⟨[.ptr 0 0, .fnc 110 false [2]], oDecC, [], [.dat (.sl 169 tfrTopic) false false], none⟩
def FdfrTopics (d : iodfrTopics.In) : Tr iodfrTopics.Res := .ite (spDok d.2.2.1.1 d.2.2.1.2.1) (.ret (.ret (((spfrTsD d.2.1.2.1 d.2.2.1.1 (decStC d.2)).1, ()), decOutC d.2.1.2.1 d.2.2.1.1 (spfrTsD d.2.1.2.1 d.2.2.1.1 (decStC d.2)).2))) .no
abbrev csdfrTopics : List (Nat × Hc) := [(81, ioHd iodI32 FdI32), (110, ioHd iodfrTopic FdfrTopic)]
def hddfrTopics : Hd := hdT csdfrTopics
abbrev lodfrTopics_10 : Lo := ⟨⟨[.one (.ptr 0 0), .one (.fnp 110 false [2]), .any, .any, .any, .one (.hol (.int IntKind.i32)), .one (.onl 169 tfrTopic 19), .one (.hol (.int IntKind.i32)), .any, .any, .any, .any, .any, .any, .any, .any, .any, .any, .any, .any, .any, .any, .any, .any, .any, .any, .any, .any, .any, .any, .any, .any, .any, .any, .any, .any, .any, .any, .any, .any, .any, .any, .any, .any, .any, .any], [some [.ptr 1 0, .hol (.int IntKind.i64), .hol (.int IntKind.i64)], some [.hol (.sl 5 (Ty.int IntKind.u8)), .hol (.int IntKind.i64)], some [.ptr 0 0]]⟩, [(.exit 1, ⟨[.any, .any, .any, .any, .any, .any, .one (.onl 169 tfrTopic 19), .any, .any, .any, .any, .any, .any, .any, .any, .any, .any, .any, .any, .any, .any, .any, .any, .any, .any, .any, .any, .any, .any, .any, .any, .any, .any, .any, .any, .any, .any, .any, .any, .any, .any, .any, .any, .any, .any, .any], [some [.ptr 1 0, .hol (.int IntKind.i64), .hol (.int IntKind.i64)], some [.hol (.sl 5 (Ty.int IntKind.u8)), .hol (.int IntKind.i64)], some [.ptr 0 0]]⟩)]⟩
-- FdfrTopics_10 : lodfrTopics_10.st.den → Tr (DenX lodfrTopics_10.xs) | ((h4, (h5, (h6, ()))), ((h7, (h8, ())), ((h9, (h10, ())), ((), ()))))
def FdfrTopics_10 (d : lodfrTopics_10.st.den) : Tr (DenX lodfrTopics_10.xs) :=
  .ite (decide (d.1.2.2.1 = 0) && (decide (d.1.2.1.length = 0) && (spDok d.2.2.1.1 d.2.2.1.2.1 && (decide (d.1.1 ≤ (16 : Int)) || decide (d.2.1.2.1 ≠ 0))))) (.ret (.ret ((), (((spRep (spfrTD d.2.1.1 d.2.2.1.1) d.1.1.toNat (d.2.1.2.1, d.2.2.1.2.1)).1, ()), decOutB d.2.1.1 d.2.2.1.1 (spRep (spfrTD d.2.1.1 d.2.2.1.1) d.1.1.toNat (d.2.1.2.1, d.2.2.1.2.1)).2)))) .no
def lpdfrTopics : Lp := lpT [(10, loHd lodfrTopics_10 FdfrTopics_10)]
def stepdfrTopics_10 {R : Type} (h4 : Int) (h5 : List tfrTopic.den) (h6 : Int) (h7 : Int) (h8 : Int) (h9 : List Int) (h10 : Int) (next : Int → List tfrTopic.den → Int → Int → Int → List Int → Int → Option R) (out : DenX lodfrTopics_10.xs → Option R) : Option R := bif decide (h6 < h4) then bif h8 == 0 then bif spDok h9 h10 then bif decide (h5.length + 1 ≤ 4294967296) then next (h4) (h5 ++ [(spfrTD h7 h9 (h8, h10)).fst]) (IntKind.i32.wrap (h6 + 1)) (h7) ((spfrTD h7 h9 (h8, h10)).snd.fst) (h9) ((spfrTD h7 h9 (h8, h10)).snd.snd) else none else none else out (.ret ((), ((h5, ()), ((h7, (h8, ())), ((h9, (h10, ())), ((), ())))))) else out (.ret ((), ((h5, ()), ((h7, (h8, ())), ((h9, (h10, ())), ((), ()))))))
def itdfrTopics_10 (n : Nat) (h4 : Int) (h5 : List tfrTopic.den) (h6 : Int) (h7 : Int) (h8 : Int) (h9 : List Int) (h10 : Int) : Option (DenX lodfrTopics_10.xs) := lpN tt hddfrTopics dr lpdfrTopics 3 Go.Proofs.Tryz.f109 (topL Go.Proofs.Tryz.f109 0) n (lodfrTopics_10.st.mk' ((h4, (h5, (h6, ()))), ((h7, (h8, ())), ((h9, (h10, ())), ((), ()))))) (decX lodfrTopics_10.xs)
theorem sldfrTopics_10 (n : Nat) (h4 : Int) (h5 : List tfrTopic.den) (h6 : Int) (h7 : Int) (h8 : Int) (h9 : List Int) (h10 : Int) : itdfrTopics_10 (n + 1) h4 h5 h6 h7 h8 h9 h10 = stepdfrTopics_10 h4 h5 h6 h7 h8 h9 h10 (itdfrTopics_10 n) some := by kernel_rfl
theorem loopdfrTopics (n v : Int) (b : List Int) : ∀ (k j : Nat) (xs : List tfrTopic.den) (s : DeS), n.toNat < j + k → j ≤ n.toNat → xs.length = j → spDok b s.2 = true → (s.1 = 0 → n ≤ 16) →
    itdfrTopics_10 k n xs j v s.1 b s.2 = some (.ret ((), ((xs ++ (spRep (spfrTD v b) (n.toNat - j) s).1, ()), decOutB v b (spRep (spfrTD v b) (n.toNat - j) s).2))) := by
  intro k
  induction k with
  | zero => intro j xs s h; omega
  | succ k ih =>
    intro j xs s h1 h2 h3 h4 h5
    rw [sldfrTopics_10]
    unfold stepdfrTopics_10
    by_cases hj : (j : Int) < n
    · refine (bif_true (by simpa using hj) _ _).trans ?_
      obtain ⟨m, hm⟩ : ∃ m, n.toNat - j = m + 1 := ⟨n.toNat - j - 1, by omega⟩
      rw [hm]
      by_cases he : s.1 = 0
      · refine (bif_true (by simpa using he) _ _).trans ?_
        have hn := h5 he
        refine (bif_true h4 _ _).trans ?_
        refine (bif_true (decide_eq_true (show xs.length + 1 ≤ 4294967296 by omega)) _ _).trans ?_
        have hw : IntKind.i32.wrap ((j : Int) + 1) = ((j + 1 : Nat) : Int) := wrap_id (by simp [inR, IntKind.min, IntKind.max, IntKind.signed, IntKind.bits]; omega)
        rw [hw]
        refine (ih (j + 1) (xs ++ [(spfrTD v b s).1]) (spfrTD v b s).2 (by omega) (by omega) (by simp [h3]) (spfrTD_ok h4) (fun _ => hn)).trans ?_
        rw [show n.toNat - (j + 1) = m by omega, spRep, if_pos he]
        simp
      · refine (bif_false (by simpa using he) _ _).trans ?_
        rw [spRep, if_neg he]
        simp
    · refine (bif_false (by simpa using hj) _ _).trans ?_
      rw [show n.toNat - j = 0 by omega, spRep]
      simp
def bodydfrTopics (a0 : Int) (a1 : Int) (a2 : List Int) (a3 : Int) : Option iodfrTopics.Res := bif spDok a2 a3 then bif (spDn IntKind.i32 4 a2 (a1, a3)).snd.fst != 0 then (FdfrTopics_10 (((spDn IntKind.i32 4 a2 (a1, a3)).fst, ([], (0, ()))), ((a0, ((spDn IntKind.i32 4 a2 (a1, a3)).snd.fst, ())), ((a2, ((spDn IntKind.i32 4 a2 (a1, a3)).snd.snd, ())), ((), ()))))).run fun y => match y with | .ret ((), ((x28, ()), (x29, x30, ()), (x31, x32, ()), (), ())) => (some (Out.ret ((x28, ()), ((), x29, x30, ()), (x31, x32, ()), ((), ()), ()))) else bif decide ((spDn IntKind.i32 4 a2 (a1, a3)).fst < 0) then (FdfrTopics_10 (((spDn IntKind.i32 4 a2 (a1, a3)).fst, ([], (0, ()))), ((a0, (5, ())), ((a2, ((spDn IntKind.i32 4 a2 (a1, a3)).snd.snd, ())), ((), ()))))).run fun y => match y with | .ret ((), ((x40, ()), (x41, x42, ()), (x43, x44, ()), (), ())) => (some (Out.ret ((x40, ()), ((), x41, x42, ()), (x43, x44, ()), ((), ()), ()))) else bif decide (16 < (spDn IntKind.i32 4 a2 (a1, a3)).fst) then (FdfrTopics_10 (((spDn IntKind.i32 4 a2 (a1, a3)).fst, ([], (0, ()))), ((a0, (9, ())), ((a2, ((spDn IntKind.i32 4 a2 (a1, a3)).snd.snd, ())), ((), ()))))).run fun y => match y with | .ret ((), ((x52, ()), (x53, x54, ()), (x55, x56, ()), (), ())) => (some (Out.ret ((x52, ()), ((), x53, x54, ()), (x55, x56, ()), ((), ()), ()))) else (FdfrTopics_10 (((spDn IntKind.i32 4 a2 (a1, a3)).fst, ([], (0, ()))), ((a0, ((spDn IntKind.i32 4 a2 (a1, a3)).snd.fst, ())), ((a2, ((spDn IntKind.i32 4 a2 (a1, a3)).snd.snd, ())), ((), ()))))).run fun y => match y with | .ret ((), ((x64, ()), (x65, x66, ()), (x67, x68, ()), (), ())) => (some (Out.ret ((x64, ()), ((), x65, x66, ()), (x67, x68, ()), ((), ()), ()))) else none
theorem rundfrTopics (a0 : Int) (a1 : Int) (a2 : List Int) (a3 : Int) : Io.run tt hddfrTopics dr lpdfrTopics iodfrTopics Go.Proofs.Tryz.f109 (((), (), ()), ((), a0, a1, ()), (a2, a3, ()), ((), ()), ()) = bodydfrTopics a0 a1 a2 a3 := by kernel_rfl
theorem okdfrTopics : HcOk prog 109 (ioHd iodfrTopics FdfrTopics) := by
  refine fn_sound (n := 400) hm (cs := csdfrTopics) (.cons okdI32 (.cons okdfrTopic .nil)) (lp := lpdfrTopics) (fn := Go.Proofs.Tryz.f109) (by kernel_rfl) (by kernel_rfl) (by kernel_rfl) iodfrTopics (.step (h0 := loHd lodfrTopics_10 FdfrTopics_10) (by kernel_rfl) (loop_sound (n := 400) hm (cs := csdfrTopics) (.cons okdI32 (.cons okdfrTopic .nil)) (lp := lpdfrTopics) (fn := Go.Proofs.Tryz.f109) (.done (by kernel_rfl)) lodfrTopics_10 FdfrTopics_10 ?_) (.done (by kernel_rfl))) FdfrTopics ?_
  · rintro ⟨⟨(n : Int), (xs : List tfrTopic.den), (i : Int), ⟨⟩⟩, ⟨⟨(v : Int), (e : Int), ⟨⟩⟩, ⟨(b : List Int), (p : Int), ⟨⟩⟩, ⟨⟨⟩, ⟨⟩⟩⟩⟩ y hw hy
    obtain ⟨hg, hy⟩ := Tr.guard hy
    simp only [Bool.and_eq_true, decide_eq_true_eq, Bool.or_eq_true] at hg
    obtain ⟨h1, h2, h3, h4⟩ := hg
    have h1 : i = 0 := h1
    have h2 : xs = [] := List.eq_nil_of_length_eq_zero h2
    have h3 : spDok b p = true := h3
    have h4 : n ≤ 16 ∨ e ≠ 0 := h4
    subst h1
    subst h2
    refine ⟨n.toNat + 1, (loopdfrTopics n v b (n.toNat + 1) 0 [] (e, p) (by omega) (by omega) rfl h3 (fun he => h4.resolve_right (fun h => h he))).trans ?_⟩
    rw [← hy]; rfl
  · rintro ⟨⟨⟨⟩, ⟨⟩, ⟨⟩⟩, ⟨⟨⟩, (v : Int), (e : Int), ⟨⟩⟩, ⟨(b : List Int), (p : Int), ⟨⟩⟩, ⟨⟨⟩, ⟨⟩⟩, ⟨⟩⟩ out hw ho
    obtain ⟨hg, ho⟩ := Tr.guard ho
    have hg : spDok b p = true := hg
    cases ho
    refine (rundfrTopics v e b p).trans ?_
    unfold bodydfrTopics
    show _ = some (Out.ret (((spfrTsD v b (e, p)).1, ()), decOutC v b (spfrTsD v b (e, p)).2))
    unfold spfrTsD spList
    refine (bif_true hg _ _).trans ?_
    have hr : spDok b (spDn .i32 4 b (e, p)).2.2 = true := spDn_ok .i32 4 (s := (e, p)) hg
    generalize spDn .i32 4 b (e, p) = r at hr ⊢
    obtain ⟨n, e1, q⟩ := r
    have hr : spDok b q = true := hr
    have key : ∀ e' : Int, (e' = 0 → n ≤ 16) → FdfrTopics_10 ((n, ([], (0, ()))), ((v, (e', ())), ((b, (q, ())), ((), ())))) = .ite true (.ret (.ret ((), (((spRep (spfrTD v b) n.toNat (e', q)).1, ()), decOutB v b (spRep (spfrTD v b) n.toNat (e', q)).2)))) .no := by
      intro e' he
      refine congrArg (fun c => Tr.ite c _ _) ?_
      show (decide ((0 : Int) = 0) && (decide (([] : List tfrTopic.den).length = 0) && (spDok b q && (decide (n ≤ 16) || decide (e' ≠ 0))))) = true
      rw [hr]
      by_cases h : e' = 0
      · simp [he h]
      · simp [h]
    unfold spLen
    show (bif e1 != 0 then _ else _) = _
    by_cases h1 : e1 = 0
    · refine (bif_false (by simpa using h1) _ _).trans ?_
      show (bif decide (n < 0) then _ else _) = _
      rw [if_pos h1]
      by_cases h2 : n < 0
      · refine (bif_true (by simpa using h2) _ _).trans ?_
        show (FdfrTopics_10 ((n, ([], (0, ()))), ((v, (5, ())), ((b, (q, ())), ((), ()))))).run _ = _
        rw [key 5 (by omega), if_pos h2]
        rfl
      · refine (bif_false (by simpa using h2) _ _).trans ?_
        show (bif decide (16 < n) then _ else _) = _
        rw [if_neg h2]
        by_cases h3 : 16 < n
        · refine (bif_true (by simpa using h3) _ _).trans ?_
          show (FdfrTopics_10 ((n, ([], (0, ()))), ((v, (9, ())), ((b, (q, ())), ((), ()))))).run _ = _
          rw [key 9 (by omega), if_pos h3]
          rfl
        · refine (bif_false (by simpa using h3) _ _).trans ?_
          show (FdfrTopics_10 ((n, ([], (0, ()))), ((v, (e1, ())), ((b, (q, ())), ((), ()))))).run _ = _
          rw [key e1 (by omega), if_neg h3]
          rfl
    · refine (bif_true (by simpa using h1) _ _).trans ?_
      show (FdfrTopics_10 ((n, ([], (0, ()))), ((v, (e1, ())), ((b, (q, ())), ((), ()))))).run _ = _
      rw [key e1 (fun h => absurd h h1), if_neg h1]
      rfl
abbrev iodfrTopicsZ : Io := ⟨[.ptr 0 0, .fnc 110 false [1]], oDecCZ, [], [.dat (.sl 169 tfrTopic) false false], none⟩
def FdfrTopicsZ (d : iodfrTopicsZ.In) : Tr iodfrTopicsZ.Res := .ite (decide (d.2.1.2.2.1 ≠ 0)) (.ret (.ret ((([] : List tfrTopic.den), ()), d.2))) .no
abbrev csdfrTopicsZ : List (Nat × Hc) := [(81, orHd deadB (ioHd iodI32Z FdI32Z) (ioHd iodI32 FdI32))]
def hddfrTopicsZ : Hd := hdT csdfrTopicsZ
abbrev lodfrTopicsZ_10 : Lo := ⟨⟨[.one (.ptr 0 0), .one (.fnp 110 false [1]), .any, .any, .any, .one (.hol (.int IntKind.i32)), .one (.onl 169 tfrTopic 17), .one (.hol (.int IntKind.i32)), .any, .any, .any, .any, .any, .any, .any, .any, .any, .any, .any, .any, .any, .any, .any, .any, .any, .any, .any, .any, .any, .any, .any, .any, .any, .any, .any, .any, .any, .any, .any, .any, .any, .any, .any, .any, .any, .any], [some [.nilp, .hol (.int IntKind.i64), .hol (.int IntKind.i64)], some [.ptr 0 0]]⟩, [(.exit 1, ⟨[.any, .any, .any, .any, .any, .any, .one (.onl 169 tfrTopic 17), .any, .any, .any, .any, .any, .any, .any, .any, .any, .any, .any, .any, .any, .any, .any, .any, .any, .any, .any, .any, .any, .any, .any, .any, .any, .any, .any, .any, .any, .any, .any, .any, .any, .any, .any, .any, .any, .any, .any], [some [.nilp, .hol (.int IntKind.i64), .hol (.int IntKind.i64)], some [.ptr 0 0]]⟩)]⟩
-- FdfrTopicsZ_10 : lodfrTopicsZ_10.st.den → Tr (DenX lodfrTopicsZ_10.xs) | ((h2, (h3, (h4, ()))), ((h5, (h6, ())), ((), ())))
def FdfrTopicsZ_10 (d : lodfrTopicsZ_10.st.den) : Tr (DenX lodfrTopicsZ_10.xs) :=
  .ite (decide (d.2.1.2.1 ≠ 0)) (.ret (.ret ((), ((d.1.2.1, ()), d.2)))) .no
def lpdfrTopicsZ : Lp := lpT [(10, loHd lodfrTopicsZ_10 FdfrTopicsZ_10)]
def stepdfrTopicsZ_10 {R : Type} (h2 : Int) (h3 : List tfrTopic.den) (h4 : Int) (h5 : Int) (h6 : Int) (next : Int → List tfrTopic.den → Int → Int → Int → Option R) (out : DenX lodfrTopicsZ_10.xs → Option R) : Option R := bif decide (h4 < h2) then bif h6 == 0 then none else out (.ret ((), ((h3, ()), ((h5, (h6, ())), ((), ()))))) else out (.ret ((), ((h3, ()), ((h5, (h6, ())), ((), ())))))
def itdfrTopicsZ_10 (n : Nat) (h2 : Int) (h3 : List tfrTopic.den) (h4 : Int) (h5 : Int) (h6 : Int) : Option (DenX lodfrTopicsZ_10.xs) := lpN tt hddfrTopicsZ dr lpdfrTopicsZ 2 Go.Proofs.Tryz.f109 (topL Go.Proofs.Tryz.f109 0) n (lodfrTopicsZ_10.st.mk' ((h2, (h3, (h4, ()))), ((h5, (h6, ())), ((), ())))) (decX lodfrTopicsZ_10.xs)
theorem sldfrTopicsZ_10 (n : Nat) (h2 : Int) (h3 : List tfrTopic.den) (h4 : Int) (h5 : Int) (h6 : Int) : itdfrTopicsZ_10 (n + 1) h2 h3 h4 h5 h6 = stepdfrTopicsZ_10 h2 h3 h4 h5 h6 (itdfrTopicsZ_10 n) some := by kernel_rfl
def bodydfrTopicsZ (a0 : Int) (a1 : Int) : Option iodfrTopicsZ.Res := bif decide (a1 ≠ 0) then bif a1 != 0 then (FdfrTopicsZ_10 ((0, ([], (0, ()))), ((a0, (a1, ())), ((), ())))).run fun y => match y with | .ret ((), ((x13, ()), (x14, x15, ()), (), ())) => (some (Out.ret ((x13, ()), ((), x14, x15, ()), ((), ()), ()))) else (FdfrTopicsZ_10 ((0, ([], (0, ()))), ((a0, (a1, ())), ((), ())))).run fun y => match y with | .ret ((), ((x21, ()), (x22, x23, ()), (), ())) => (some (Out.ret ((x21, ()), ((), x22, x23, ()), ((), ()), ()))) else none
theorem rundfrTopicsZ (a0 : Int) (a1 : Int) : Io.run tt hddfrTopicsZ dr lpdfrTopicsZ iodfrTopicsZ Go.Proofs.Tryz.f109 (((), (), ()), ((), a0, a1, ()), ((), ()), ()) = bodydfrTopicsZ a0 a1 := by kernel_rfl
theorem okdfrTopicsZ : HcOk prog 109 (ioHd iodfrTopicsZ FdfrTopicsZ) := by
  refine fn_sound (n := 400) hm (cs := csdfrTopicsZ) (.cons (or_sound okdI32Z okdI32) .nil) (lp := lpdfrTopicsZ) (fn := Go.Proofs.Tryz.f109) (by kernel_rfl) (by kernel_rfl) (by kernel_rfl) iodfrTopicsZ (.step (h0 := loHd lodfrTopicsZ_10 FdfrTopicsZ_10) (by kernel_rfl) (loop_sound (n := 400) hm (cs := csdfrTopicsZ) (.cons (or_sound okdI32Z okdI32) .nil) (lp := lpdfrTopicsZ) (fn := Go.Proofs.Tryz.f109) (.done (by kernel_rfl)) lodfrTopicsZ_10 FdfrTopicsZ_10 ?_) (.done (by kernel_rfl))) FdfrTopicsZ ?_
  · rintro ⟨⟨(n : Int), (xs : List tfrTopic.den), (i : Int), ⟨⟩⟩, ⟨⟨(v : Int), (e : Int), ⟨⟩⟩, ⟨⟨⟩, ⟨⟩⟩⟩⟩ y hw hy
    obtain ⟨hg, hy⟩ := Tr.guard hy
    have hg : e ≠ 0 := of_decide_eq_true hg
    refine ⟨1, (sldfrTopicsZ_10 0 n xs i v e).trans ?_⟩
    unfold stepdfrTopicsZ_10
    rw [← hy]
    by_cases h : i < n
    · refine (bif_true (by simpa using h) _ _).trans ?_
      exact bif_false (by simpa using hg) _ _
    · exact bif_false (by simpa using h) _ _
  · rintro ⟨⟨⟨⟩, ⟨⟩, ⟨⟩⟩, ⟨⟨⟩, (v : Int), (e : Int), ⟨⟩⟩, ⟨⟨⟩, ⟨⟩⟩, ⟨⟩⟩ out hw ho
    obtain ⟨hg, ho⟩ := Tr.guard ho
    have hg : e ≠ 0 := of_decide_eq_true hg
    cases ho
    refine (rundfrTopicsZ v e).trans ?_
    unfold bodydfrTopicsZ
    have e1 : FdfrTopicsZ_10 ((0, ([], (0, ()))), ((v, (e, ())), ((), ()))) = .ite true (.ret (.ret ((), ((([] : List tfrTopic.den), ()), ((v, (e, ())), ((), ())))))) .no := congrArg (fun c => Tr.ite c _ _) (decide_eq_true hg)
    refine (bif_true (by simpa using hg) _ _).trans ?_
    refine (bif_true (by simpa using hg) _ _).trans ?_
    rw [e1]
    rfl
def spfrZ : tfrMsg.den := (0, (([] : List tfrTopic.den), ()))
def spfrDB (v : Int) (b : List Int) (s : DeS) : tfrMsg.den × DeS :=
  (((spDHasN .i32 4 v 1 3 b s).1, ((spfrTsD v b (spDHasN .i32 4 v 1 3 b s).2).1, ())), (spfrTsD v b (spDHasN .i32 4 v 1 3 b s).2).2)
def spfrD (v : Int) (b : List Int) : tfrMsg.den × Int := if 0 ≤ v ∧ v ≤ 3 ∧ (b.length : Int) ≤ 130048 then (if spDEnd b (spfrDB v b (0, 0)).2 = 0 then ((spfrDB v b (0, 0)).1, 0) else (spfrZ, spDEnd b (spfrDB v b (0, 0)).2)) else (spfrZ, spNewD v)
abbrev iodfrMsg : Io := ⟨[dI, dL], [], [], [.dat tfrMsg true false, dI], none⟩
def FdfrMsg (d : iodfrMsg.In) : Tr iodfrMsg.Res := .ret (.ret (((spfrD d.1.1 d.1.2.1).1, ((spfrD d.1.1 d.1.2.1).2, ())), ()))
abbrev csdfrMsg : List (Nat × Hc) := [(79, orHd newBad (ioHd iodNewZ FdNewZ) (ioHd iodNew FdNew)), (80, orHd deadB (ioHd iodHasZ FdHasZ) (ioHd iodHas FdHas)), (81, orHd deadB (ioHd iodI32Z FdI32Z) (ioHd iodI32 FdI32)), (109, orHd deadB (ioHd iodfrTopicsZ FdfrTopicsZ) (ioHd iodfrTopics FdfrTopics)), (90, orHd deadB (ioHd iodEndZ FdEndZ) (ioHd iodEnd FdEnd))]
def hddfrMsg : Hd := hdT csdfrMsg
def lpdfrMsg : Lp := lpT []
def bodydfrMsg (a0 : Int) (a1 : List Int) : Option iodfrMsg.Res := bif !(decide (0 ≤ a0) && (decide (a0 ≤ 3) && decide ((↑a1.length : Int) ≤ 130048))) then bif decide (0 ≤ a0) && (decide (a0 ≤ 3) && decide ((↑a1.length : Int) ≤ 130048)) then none else bif decide (spNewD a0 ≠ 0) then bif decide (spNewD a0 ≠ 0) then bif decide (spNewD a0 ≠ 0) then bif spNewD a0 != 0 then some (Out.ret (((0, [], ()), spNewD a0, ()), ())) else some (Out.ret (((0, [], ()), 0, ()), ())) else none else none else none else bif decide (0 ≤ a0) && (decide (a0 ≤ 3) && decide ((↑a1.length : Int) ≤ 130048)) then bif spDHas a0 1 3 0 then bif spDok a1 0 then bif spDok a1 (spRd a1 0 4).snd.fst then bif spDEnd a1 (spfrTsD a0 a1 ((spRd a1 0 4).snd.snd, (spRd a1 0 4).snd.fst)).snd != 0 then some (Out.ret (((0, [], ()), spDEnd a1 (spfrTsD a0 a1 ((spRd a1 0 4).snd.snd, (spRd a1 0 4).snd.fst)).snd, ()), ())) else some (Out.ret (((IntKind.i32.wrap (spRd a1 0 4).fst, (spfrTsD a0 a1 ((spRd a1 0 4).snd.snd, (spRd a1 0 4).snd.fst)).fst, ()), 0, ()), ())) else none else none else bif spDok a1 0 then bif spDEnd a1 (spfrTsD a0 a1 (0, 0)).snd != 0 then some (Out.ret (((0, [], ()), spDEnd a1 (spfrTsD a0 a1 (0, 0)).snd, ()), ())) else some (Out.ret (((0, (spfrTsD a0 a1 (0, 0)).fst, ()), 0, ()), ())) else none else none
theorem rundfrMsg (a0 : Int) (a1 : List Int) : Io.run tt hddfrMsg dr lpdfrMsg iodfrMsg Go.Proofs.Tryz.f40 ((a0, a1, ()), ()) = bodydfrMsg a0 a1 := by kernel_rfl
theorem okdfrMsg : HcOk prog 40 (ioHd iodfrMsg FdfrMsg) := by
  refine fn_sound (n := 400) hm (cs := csdfrMsg) (.cons (or_sound okdNewZ okdNew) (.cons (or_sound okdHasZ okdHas) (.cons (or_sound okdI32Z okdI32) (.cons (or_sound okdfrTopicsZ okdfrTopics) (.cons (or_sound okdEndZ okdEnd) .nil))))) (lp := lpdfrMsg) (fn := Go.Proofs.Tryz.f40) (by kernel_rfl) (by kernel_rfl) (by kernel_rfl) iodfrMsg (.done (by kernel_rfl)) FdfrMsg ?_
  rintro ⟨⟨(v : Int), (b : List Int), ⟨⟩⟩, ⟨⟩⟩ out hw ho
  cases ho
  refine (rundfrMsg v b).trans ?_
  unfold bodydfrMsg
  show _ = some (Out.ret (((spfrD v b).1, ((spfrD v b).2, ())), ()))
  by_cases h : 0 ≤ v ∧ v ≤ 3 ∧ (b.length : Int) ≤ 130048
  · have hc : (decide (0 ≤ v) && (decide (v ≤ 3) && decide ((b.length : Int) ≤ 130048))) = true := by simpa using h
    refine (bif_false (by rw [hc]; rfl) _ _).trans ?_
    refine (bif_true hc _ _).trans ?_
    have hg : spDok b ((0, 0) : DeS).2 = true := by simp [spDok]; omega
    unfold spfrD spfrDB
    rw [if_pos h]
    show (bif spDHas v 1 3 ((0, 0) : DeS).1 then _ else _) = _
    cases h0 : spDHas v 1 3 ((0, 0) : DeS).1
    · have e0 : spDHasN .i32 4 v 1 3 b ((0, 0) : DeS) = (0, ((0, 0) : DeS)) := by unfold spDHasN; rw [if_neg (by rw [h0]; decide)]
      rw [e0]
      refine (bif_true hg _ _).trans ?_
      have gf1 : spDok b (spfrTsD v b ((0, 0) : DeS)).2.2 = true := spfrTsD_ok (s := ((0, 0) : DeS)) hg
      show _ = some (Out.ret (((if spDEnd b (spfrTsD v b ((0, 0) : DeS)).2 = 0 then _ else _ : tfrMsg.den × Int).1, _), ()))
      by_cases hE : spDEnd b (spfrTsD v b ((0, 0) : DeS)).2 = 0
      · rw [if_pos hE]
        exact bif_false (show (spDEnd b (spfrTsD v b ((0, 0) : DeS)).2 != 0) = false by simpa using hE) _ _
      · rw [if_neg hE]
        exact bif_true (show (spDEnd b (spfrTsD v b ((0, 0) : DeS)).2 != 0) = true by simpa using hE) _ _
    · have e0 : spDHasN .i32 4 v 1 3 b ((0, 0) : DeS) = spDn .i32 4 b ((0, 0) : DeS) := by unfold spDHasN; rw [if_pos h0]
      rw [e0]
      refine (bif_true hg _ _).trans ?_
      have g0 : spDok b (spDn .i32 4 b ((0, 0) : DeS)).2.2 = true := spDn_ok .i32 4 (s := ((0, 0) : DeS)) hg
      refine (bif_true g0 _ _).trans ?_
      have gt1 : spDok b (spfrTsD v b (spDn .i32 4 b ((0, 0) : DeS)).2).2.2 = true := spfrTsD_ok (s := (spDn .i32 4 b ((0, 0) : DeS)).2) g0
      show _ = some (Out.ret (((if spDEnd b (spfrTsD v b (spDn .i32 4 b ((0, 0) : DeS)).2).2 = 0 then _ else _ : tfrMsg.den × Int).1, _), ()))
      by_cases hE : spDEnd b (spfrTsD v b (spDn .i32 4 b ((0, 0) : DeS)).2).2 = 0
      · rw [if_pos hE]
        exact bif_false (show (spDEnd b (spfrTsD v b (spDn .i32 4 b ((0, 0) : DeS)).2).2 != 0) = false by simpa using hE) _ _
      · rw [if_neg hE]
        exact bif_true (show (spDEnd b (spfrTsD v b (spDn .i32 4 b ((0, 0) : DeS)).2).2 != 0) = true by simpa using hE) _ _
  · have hc : (decide (0 ≤ v) && (decide (v ≤ 3) && decide ((b.length : Int) ≤ 130048))) = false := by
      rw [Bool.eq_false_iff]
      intro h'
      simp only [Bool.and_eq_true, decide_eq_true_eq] at h'
      exact h h'
    have hn : spNewD v ≠ 0 := by unfold spNewD; split <;> decide
    unfold spfrD
    rw [if_neg h]
    refine (bif_true (by rw [hc]; rfl) _ _).trans ?_
    refine (bif_false hc _ _).trans ?_
    repeat refine (bif_true (decide_eq_true hn) _ _).trans ?_
    exact bif_true (by simpa using hn) _ _
end
end Go.Proofs.YtjpeefegeobgfaaGreat.Sym
namespace Go.Proofs.YtjpeefegeobgfaaGreat.Sym
open Go
set_option linter.unusedSimpArgs false
set_option linter.unusedVariables false
noncomputable section
def spfrF (p : tfrPart.den) : Nd := ndRow [ndNum 3 p.1, ndNum 2 p.2.1, ndNum 4 p.2.2.1, ndNum 4 p.2.2.2.1, ndNum 4 p.2.2.2.2.1, ndNBytes p.2.2.2.2.2.1]
def spfrFT (t : tfrTopic.den) : Nd := ndRow [ndText t.1, ndRows (t.2.1.map spfrF)]
def spfrO (x : Nd) : tfrPart.den := (IntKind.i32.wrap (spAt x 0).lab.2.1, (IntKind.i16.wrap (spAt x 1).lab.2.1, ((spAt x 2).lab.2.1, ((spAt x 3).lab.2.1, ((spAt x 4).lab.2.1, ((spAt x 5).lab.2.2, ()))))))
def spfrOT (x : Nd) : tfrTopic.den := ((spAt x 0).lab.2.2.2.1, ((spAt x 1).kids.map spfrO, ()))
def spfrLens (l : List tfrTopic.den) : Bool := decide (l.length ≤ 4294967296) && l.all fun t => decide (t.2.1.length ≤ 4294967296)
abbrev lozfrFull_8 : Lo := ⟨⟨[.any, .one (.ptr 1 0), .one (.ptr 2 0), .one (.onl 98 tNode 7), .one (.hol (.int IntKind.i64)), .one (.onl 98 tNode 11), .one (.hol (.int IntKind.i64)), .any, .any, .any, .any, .any, .any, .any, .any, .any, .any, .any, .any, .any, .any, .any, .any, .any, .any, .any, .any, .any, .any, .any, .any, .any, .any, .any, .any, .any, .any, .any, .any, .any, .any, .any, .any, .any, .any, .any, .any, .any, .any, .any, .any, .any, .any, .any, .any, .any, .any, .any, .any, .any, .any, .any, .any, .any, .any, .any, .any, .any, .any, .any, .any, .any, .any, .any, .any, .any, .any, .any, .any, .any, .any, .any, .any, .any, .any, .any], [none, some [.hol (.int IntKind.i32), .hol (.sl 169 tfrTopic)], some [.hol (.int IntKind.i64), .hol (.int IntKind.i64), .hol .bool, .onl 5 (Ty.int IntKind.u8) 1032, .onl 98 tNode 1034]]⟩, [(.exit 2, ⟨[.any, .one (.ptr 1 0), .one (.ptr 2 0), .one (.onl 98 tNode 7), .one (.hol (.int IntKind.i64)), .one (.onl 98 tNode 11), .any, .any, .any, .any, .any, .any, .any, .any, .any, .any, .any, .any, .any, .any, .any, .any, .any, .any, .any, .any, .any, .any, .any, .any, .any, .any, .any, .any, .any, .any, .any, .any, .any, .any, .any, .any, .any, .any, .any, .any, .any, .any, .any, .any, .any, .any, .any, .any, .any, .any, .any, .any, .any, .any, .any, .any, .any, .any, .any, .any, .any, .any, .any, .any, .any, .any, .any, .any, .any, .any, .any, .any, .any, .any, .any, .any, .any, .any, .any, .any], [none, some [.hol (.int IntKind.i32), .hol (.sl 169 tfrTopic)], some [.hol (.int IntKind.i64), .hol (.int IntKind.i64), .hol .bool, .onl 5 (Ty.int IntKind.u8) 1032, .onl 98 tNode 1034]]⟩)]⟩
-- FzfrFull_8 : lozfrFull_8.st.den → Tr (DenX lozfrFull_8.xs) | ((h11, (h12, (h13, (h14, ())))), ((h15, (h16, ())), ((h17, (h18, (h19, (h20, (h21, ()))))), ())))
abbrev lozfrFull_4 : Lo := ⟨⟨[.any, .one (.ptr 1 0), .one (.ptr 2 0), .one (.onl 98 tNode 7), .one (.hol (.int IntKind.i64)), .any, .any, .any, .any, .any, .any, .any, .any, .any, .any, .any, .any, .any, .any, .any, .any, .any, .any, .any, .any, .any, .any, .any, .any, .any, .any, .any, .any, .any, .any, .any, .any, .any, .any, .any, .any, .any, .any, .any, .any, .any, .any, .any, .any, .any, .any, .any, .any, .any, .any, .any, .any, .any, .any, .any, .any, .any, .any, .any, .any, .any, .any, .any, .any, .any, .any, .any, .any, .any, .any, .any, .any, .any, .any, .any, .any, .any, .any, .any, .any, .any], [none, some [.hol (.int IntKind.i32), .hol (.sl 169 tfrTopic)], some [.hol (.int IntKind.i64), .hol (.int IntKind.i64), .hol .bool, .onl 5 (Ty.int IntKind.u8) 1032, .onl 98 tNode 1034]]⟩, [(.exit 0, ⟨[.any, .one (.ptr 1 0), .one (.ptr 2 0), .one (.onl 98 tNode 7), .any, .any, .any, .any, .any, .any, .any, .any, .any, .any, .any, .any, .any, .any, .any, .any, .any, .any, .any, .any, .any, .any, .any, .any, .any, .any, .any, .any, .any, .any, .any, .any, .any, .any, .any, .any, .any, .any, .any, .any, .any, .any, .any, .any, .any, .any, .any, .any, .any, .any, .any, .any, .any, .any, .any, .any, .any, .any, .any, .any, .any, .any, .any, .any, .any, .any, .any, .any, .any, .any, .any, .any, .any, .any, .any, .any, .any, .any, .any, .any, .any, .any], [none, some [.hol (.int IntKind.i32), .hol (.sl 169 tfrTopic)], some [.hol (.int IntKind.i64), .hol (.int IntKind.i64), .hol .bool, .onl 5 (Ty.int IntKind.u8) 1032, .onl 98 tNode 1034]]⟩)]⟩
-- FzfrFull_4 : lozfrFull_4.st.den → Tr (DenX lozfrFull_4.xs) | ((h2, (h3, ())), ((h4, (h5, ())), ((h6, (h7, (h8, (h9, (h10, ()))))), ())))
def FzfrFull_8 (d : lozfrFull_8.st.den) : Tr (DenX lozfrFull_8.xs) :=
  .ite ((decide ((0 : Int) ≤ d.1.2.1) && decide (d.1.2.1 < (d.2.1.2.1.length : Int))) && ((decide (d.1.2.2.1.length = 0) && decide (d.1.2.2.2.1 = 0)) && decide ((d.2.1.2.1.getD d.1.2.1.toNat tfrTopic.zero).2.1.length ≤ 4294967296)))
    (.ret (.ret ((), ((d.1.1, (d.1.2.1, ((d.2.1.2.1.getD d.1.2.1.toNat tfrTopic.zero).2.1.map spfrF, ()))), (d.2.1, (d.2.2.1, ())))))) .no
def FzfrFull_4 (d : lozfrFull_4.st.den) : Tr (DenX lozfrFull_4.xs) :=
  .ite ((decide (d.1.1.length = 0) && decide (d.1.2.1 = 0)) && spfrLens d.2.1.2.1)
    (.ret (.ret ((), ((d.2.1.2.1.map spfrFT, ()), (d.2.1, (d.2.2.1, ())))))) .no
abbrev lozfrOf_10 : Lo := ⟨⟨[.any, .any, .one (.ptr 2 0), .one (.ptr 3 0), .one (.hol (.sl 98 tNode)), .one (.hol (.int IntKind.i64)), .one (.ptr 6 0), .one (.hol (.sl 98 tNode)), .one (.hol (.int IntKind.i64)), .any, .any, .any, .any, .any, .any, .any, .any, .any, .any, .any, .any, .any, .any, .any, .any, .any, .any, .any, .any, .any, .any, .any, .any, .any, .any, .any, .any, .any, .any, .any, .any, .any, .any, .any, .any, .any, .any, .any, .any, .any, .any, .any, .any, .any, .any, .any, .any, .any, .any, .any, .any, .any, .any, .any, .any, .any, .any, .any, .any, .any, .any, .any, .any, .any, .any, .any, .any, .any, .any, .any, .any, .any, .any, .any, .any, .any], [none, none, some [.hol (.int IntKind.i32), .onl 169 tfrTopic 1028], some [.hol (.int IntKind.i32), .onl 169 tfrTopic 1540], none, none, some [.hol .str, .onl 173 tfrPart 3076]]⟩, [(.exit 2, ⟨[.any, .any, .one (.ptr 2 0), .one (.ptr 3 0), .one (.hol (.sl 98 tNode)), .one (.hol (.int IntKind.i64)), .one (.ptr 6 0), .any, .any, .any, .any, .any, .any, .any, .any, .any, .any, .any, .any, .any, .any, .any, .any, .any, .any, .any, .any, .any, .any, .any, .any, .any, .any, .any, .any, .any, .any, .any, .any, .any, .any, .any, .any, .any, .any, .any, .any, .any, .any, .any, .any, .any, .any, .any, .any, .any, .any, .any, .any, .any, .any, .any, .any, .any, .any, .any, .any, .any, .any, .any, .any, .any, .any, .any, .any, .any, .any, .any, .any, .any, .any, .any, .any, .any, .any, .any], [none, none, some [.hol (.int IntKind.i32), .onl 169 tfrTopic 1028], some [.hol (.int IntKind.i32), .onl 169 tfrTopic 1540], none, none, some [.hol .str, .onl 173 tfrPart 3076]]⟩)]⟩
-- FzfrOf_10 : lozfrOf_10.st.den → Tr (DenX lozfrOf_10.xs) | ((h7, (h8, (h9, (h10, ())))), ((h11, (h12, ())), ((h13, (h14, ())), ((h15, (h16, ())), ()))))
abbrev lozfrOf_5 : Lo := ⟨⟨[.any, .any, .one (.ptr 2 0), .one (.ptr 3 0), .one (.hol (.sl 98 tNode)), .one (.hol (.int IntKind.i64)), .any, .any, .any, .any, .any, .any, .any, .any, .any, .any, .any, .any, .any, .any, .any, .any, .any, .any, .any, .any, .any, .any, .any, .any, .any, .any, .any, .any, .any, .any, .any, .any, .any, .any, .any, .any, .any, .any, .any, .any, .any, .any, .any, .any, .any, .any, .any, .any, .any, .any, .any, .any, .any, .any, .any, .any, .any, .any, .any, .any, .any, .any, .any, .any, .any, .any, .any, .any, .any, .any, .any, .any, .any, .any, .any, .any, .any, .any, .any, .any], [none, none, some [.hol (.int IntKind.i32), .onl 169 tfrTopic 1028], some [.hol (.int IntKind.i32), .onl 169 tfrTopic 1540]]⟩, [(.exit 0, ⟨[.any, .any, .one (.ptr 2 0), .one (.ptr 3 0), .any, .any, .any, .any, .any, .any, .any, .any, .any, .any, .any, .any, .any, .any, .any, .any, .any, .any, .any, .any, .any, .any, .any, .any, .any, .any, .any, .any, .any, .any, .any, .any, .any, .any, .any, .any, .any, .any, .any, .any, .any, .any, .any, .any, .any, .any, .any, .any, .any, .any, .any, .any, .any, .any, .any, .any, .any, .any, .any, .any, .any, .any, .any, .any, .any, .any, .any, .any, .any, .any, .any, .any, .any, .any, .any, .any, .any, .any, .any, .any, .any, .any], [none, none, some [.hol (.int IntKind.i32), .onl 169 tfrTopic 1028], some [.hol (.int IntKind.i32), .onl 169 tfrTopic 1540]]⟩)]⟩
-- FzfrOf_5 : lozfrOf_5.st.den → Tr (DenX lozfrOf_5.xs) | ((h1, (h2, ())), ((h3, (h4, ())), ((h5, (h6, ())), ())))
def FzfrOf_10 (d : lozfrOf_10.st.den) : Tr (DenX lozfrOf_10.xs) :=
  .ite ((decide (d.1.2.2.2.1 = 0) && decide (d.2.2.2.1.2.1.length = 0)) && decide (spWts d.1.2.2.1 ≤ 4294967296))
    (.ret (.ret ((), ((d.1.1, (d.1.2.1, ())), (d.2.1, (d.2.2.1, ((d.2.2.2.1.1, (d.1.2.2.1.map spfrO, ())), ()))))))) .no
def FzfrOf_5 (d : lozfrOf_5.st.den) : Tr (DenX lozfrOf_5.xs) :=
  .ite ((decide (d.1.2.1 = 0) && decide (d.2.2.1.2.1.length = 0)) && decide (spWts d.1.1 ≤ 4294967296))
    (.ret (.ret ((), ((), (d.2.1, ((d.2.2.1.1, (d.1.1.map spfrOT, ())), ())))))) .no
end
end Go.Proofs.YtjpeefegeobgfaaGreat.Sym
namespace Go.Proofs.YtjpeefegeobgfaaGreat.Sym
open Go
set_option linter.unusedSimpArgs false
set_option linter.unusedVariables false
noncomputable section
--@alias efrMsg leat/fetch.EncodeRep
end
end Go.Proofs.YtjpeefegeobgfaaGreat.Sym
namespace Go.Proofs.YtjpeefegeobgfaaGreat.Sym
open Go
set_option linter.unusedSimpArgs false
set_option linter.unusedVariables false
noncomputable section
abbrev iofalive : Io := ⟨[], [], [], [dB], none⟩
def Ffalive (d : iofalive.In) : Tr iofalive.Res := .ret (.ret ((true, ()), ()))
abbrev csfalive : List (Nat × Hc) := [(33, ioHd iofqMsg FfqMsg), (37, ioHd iofrMsg FfrMsg), (43, ioHd iodfqMsg FdfqMsg), (40, ioHd iodfrMsg FdfrMsg), (49, ioHd ioSame FSame)]
def hdfalive : Hd := hdT csfalive
def lpfalive : Lp := lpT []
def bodyfalive : Option iofalive.Res := bif (spfqD 0 [255, 255, 255, 255, 0, 0, 0, 0, 0, 0, 0, 1, 0, 0, 0, 0]).snd != 0 then some (Out.ret ((false, ()), ())) else bif (spfrD 1 [0, 0, 0, 5, 0, 0, 0, 0]).snd != 0 then some (Out.ret ((false, ()), ())) else bif (spfqD 0 [255, 255, 255, 255, 0, 0, 0, 0, 0, 0, 0, 1, 0, 0, 0, 0]).fst.fst != -1 then some (Out.ret ((false, ()), ())) else bif (spfqD 0 [255, 255, 255, 255, 0, 0, 0, 0, 0, 0, 0, 1, 0, 0, 0, 0]).fst.snd.snd.fst != 1 then some (Out.ret ((false, ()), ())) else bif (spfrD 1 [0, 0, 0, 5, 0, 0, 0, 0]).fst.fst != 5 then some (Out.ret ((false, ()), ())) else some (Out.ret ((decide ([0, 0, 0, 0] = [0, 0, 0, 0]), ()), ()))
theorem runfalive : Io.run tt hdfalive dr lpfalive iofalive Go.Proofs.Tryz.f30 ((), ()) = bodyfalive  := by kernel_rfl
theorem okfalive : HcOk prog 30 (ioHd iofalive Ffalive) := by
  refine fn_sound (n := 400) hm (cs := csfalive) (.cons okfqMsg (.cons okfrMsg (.cons okdfqMsg (.cons okdfrMsg (.cons okSame .nil))))) (lp := lpfalive) (fn := Go.Proofs.Tryz.f30) (by kernel_rfl) (by kernel_rfl) (by kernel_rfl) iofalive (.done (by kernel_rfl)) Ffalive ?_
  rintro ⟨⟨⟩, ⟨⟩⟩ out hw ho
  cases ho
  refine runfalive.trans ?_
  kernel_rfl
end
end Go.Proofs.YtjpeefegeobgfaaGreat.Sym
namespace Go.Proofs.YtjpeefegeobgfaaGreat.Sym
open Go
set_option linter.unusedSimpArgs false
set_option linter.unusedVariables false
noncomputable section
abbrev iofAsks : Io := ⟨[dI, .dat tfqMsg true false], [], [], [dB], none⟩
def spSmfq (m : tfqMsg.den) : Bool := spfqLens m.2.2.2.2.2.1 && decide (8 * spWt (spfqFull m) ≤ 4294967296)
def FfAsks (d : iofAsks.In) : Tr iofAsks.Res := .ite (spSmfq d.1.2.1) (.ret (.ret ((true, ()), ()))) .no
abbrev csfAsks : List (Nat × Hc) := [(30, ioHd iofalive Ffalive), (31, ioHd iozfqTwin FzfqTwin), (32, ioHd iozfqEnc FzfqEnc), (33, pureHd (ioHd ioefqMsg FefqMsg)), (34, ioHd iozfqAlike FzfqAlike), (18, apartHd)]
def hdfAsks : Hd := hdT csfAsks
def lpfAsks : Lp := lpT []
def bodyfAsks (a0 : Int) (a1 : Int) (a2 : Int) (a3 : Int) (a4 : Int) (a5 : Int) (a6 : List tfqTopic.den) : Option iofAsks.Res := bif spfqLens a6 && decide (spWt (spfqFull (a1, a2, a3, a4, a5, a6, ())) ≤ 4294967296) then bif spfqLens a6 && decide (8 * spWt (spfqFull (a1, a2, a3, a4, a5, a6, ())) ≤ 4294967296) then bif (spfqW a0 (a1, a2, a3, a4, a5, a6, ())).snd != (spfqW a0 (a1, a2, a3, a4, a5, a6, ())).snd then some (Out.ret ((false, ()), ())) else bif (spfqW a0 (a1, a2, a3, a4, a5, a6, ())).snd != (spfqW a0 (a1, a2, a3, a4, a5, a6, ())).snd then some (Out.ret ((false, ()), ())) else bif spfqLens a6 && spfqLens a6 then bif !spEqT (a1, a2, a3, a4, a5, a6, ()) (a1, a2, a3, a4, a5, a6, ()) then some (Out.ret ((false, ()), ())) else bif decide ((spfqW a0 (a1, a2, a3, a4, a5, a6, ())).fst.length ≤ 4294967000) && decide ((spfqW a0 (a1, a2, a3, a4, a5, a6, ())).fst.length ≤ 4294967000) then bif decide ((spfqW a0 (a1, a2, a3, a4, a5, a6, ())).fst = (spfqW a0 (a1, a2, a3, a4, a5, a6, ())).fst) && decide ((spfqW a0 (a1, a2, a3, a4, a5, a6, ())).fst = (spfqW a0 (a1, a2, a3, a4, a5, a6, ())).fst) then bif spfqLens a6 && spfqLens a6 then some (Out.ret ((spEqT (a1, a2, a3, a4, a5, a6, ()) (a1, a2, a3, a4, a5, a6, ()), ()), ())) else none else some (Out.ret ((false, ()), ())) else none else none else none else none
theorem runfAsks (a0 : Int) (a1 : Int) (a2 : Int) (a3 : Int) (a4 : Int) (a5 : Int) (a6 : List tfqTopic.den) : Io.run tt hdfAsks dr lpfAsks iofAsks Go.Proofs.Tryz.f7 ((a0, (a1, a2, a3, a4, a5, a6, ()), ()), ()) = bodyfAsks a0 a1 a2 a3 a4 a5 a6 := by kernel_rfl
theorem okfAsks : HcOk prog 7 (ioHd iofAsks FfAsks) := by
  refine fn_sound (n := 400) hm (cs := csfAsks) (.cons okfalive (.cons okzfqTwin (.cons okzfqEnc (.cons (pure_sound okefqMsg) (.cons okzfqAlike (.cons okapart .nil)))))) (lp := lpfAsks) (fn := Go.Proofs.Tryz.f7) (by kernel_rfl) (by kernel_rfl) (by kernel_rfl) iofAsks (.done (by kernel_rfl)) FfAsks ?_
  rintro ⟨⟨(v : Int), ⟨re, wt, mi, mb, lv, ts, ⟨⟩⟩, ⟨⟩⟩, ⟨⟩⟩ out hw ho
  obtain ⟨hg, ho⟩ := Tr.guard ho
  unfold spSmfq at hg
  simp only [Bool.and_eq_true, decide_eq_true_eq] at hg
  obtain ⟨h2, h3⟩ := hg
  cases ho
  refine (runfAsks v re wt mi mb lv ts).trans ?_
  unfold bodyfAsks
  have h2 : spfqLens ts = true := h2
  have h3 : 8 * spWt (spfqFull (re, (wt, (mi, (mb, (lv, (ts, ()))))))) ≤ 4294967296 := h3
  have h4 : decide (spWt (spfqFull (re, (wt, (mi, (mb, (lv, (ts, ()))))))) ≤ 4294967296) = true := by simp; omega
  have h5 : (spfqW v (re, (wt, (mi, (mb, (lv, (ts, ()))))))).1.length ≤ 130048 := by unfold spfqW; exact spEW_len _ _ _ _
  have h6 : decide ((spfqW v (re, (wt, (mi, (mb, (lv, (ts, ()))))))).1.length ≤ 4294967000) = true := by simp; omega
  have h7 : spEqT (re, (wt, (mi, (mb, (lv, (ts, ())))))) (re, (wt, (mi, (mb, (lv, (ts, ())))))) = true := spEqT_iff.2 rfl
  simp only [h2, h4, decide_eq_true h3, h6, h7, cond_true, cond_false, bne_self_eq_false, Bool.not_true, decide_true, Bool.and_self]
end
end Go.Proofs.YtjpeefegeobgfaaGreat.Sym
namespace Go.Proofs.YtjpeefegeobgfaaGreat.Sym
open Go
set_option linter.unusedSimpArgs false
set_option linter.unusedVariables false
noncomputable section
end
end Go.Proofs.YtjpeefegeobgfaaGreat.Sym
namespace Go.Proofs.YtjpeefegeobgfaaGreat.Sym
open Go
set_option linter.unusedSimpArgs false
set_option linter.unusedVariables false
noncomputable section
end
end Go.Proofs.YtjpeefegeobgfaaGreat.Sym
namespace Go.Proofs.YtjpeefegeobgfaaGreat.Sym
open Go
set_option linter.unusedSimpArgs false
set_option linter.unusedVariables false
noncomputable section
theorem wts_map {T : Ty} {F : T.den → Nd} {c : Nat} : ∀ {l : List T.den}, (∀ x ∈ l, spWt (F x) ≤ c * dsz T x) → spWts (l.map F) ≤ c * (l.map (dsz T)).sum
  | [], _ => by rw [List.map_nil, spWts_nil]; exact Nat.zero_le _
  | x :: l, h => by
    have h1 := h x (by simp)
    have h2 := wts_map (l := l) fun y hy => h y (List.mem_cons_of_mem _ hy)
    rw [List.map_cons, spWts_cons, List.map_cons, List.sum_cons, Nat.mul_add]
    omega
theorem sum_mem {T : Ty} {x : T.den} : ∀ {l : List T.den}, x ∈ l → dsz T x ≤ (l.map (dsz T)).sum
  | y :: l, h => by
    rw [List.map_cons, List.sum_cons]
    rcases List.mem_cons.1 h with rfl | h
    · omega
    · have := sum_mem (l := l) h; omega
theorem sum_len {T : Ty} (hT : ∀ x : T.den, 1 ≤ dsz T x) : ∀ l : List T.den, l.length ≤ (l.map (dsz T)).sum
  | [] => Nat.zero_le _
  | x :: l => by
    have := sum_len hT l
    have := hT x
    rw [List.map_cons, List.sum_cons, List.length_cons]; omega
theorem spWt_num (k n : Int) : spWt (ndNum k n) = 1 := by rw [spWt_eq]; show 1 + 0 + spWts [] = 1; rw [spWts_nil]
theorem spWt_text (x : List Int) : spWt (ndText x) = 1 + x.length := by rw [spWt_eq]; show 1 + x.length + spWts [] = _; rw [spWts_nil]; rfl
theorem spWt_row (l : List Nd) : spWt (ndRow l) = 1 + spWts l := by rw [spWt_eq]; show 1 + 0 + spWts l = _; omega
theorem spWt_rows (l : List Nd) : spWt (ndRows l) = 1 + spWts l := by rw [spWt_eq]; show 1 + 0 + spWts l = _; omega
end
end Go.Proofs.YtjpeefegeobgfaaGreat.Sym
namespace Go.Proofs.YtjpeefegeobgfaaGreat.Sym
open Go
set_option linter.unusedSimpArgs false
set_option linter.unusedVariables false
noncomputable section
theorem dsz_fqP (p : tfqPart.den) : dsz tfqPart p = 4 := rfl
theorem dsz_fqT (t : tfqTopic.den) : dsz tfqTopic t = (t.1.length + 1) + (((t.2.1.map (dsz tfqPart)).sum + 1) + 0) := rfl
theorem dsz_fqM (m : tfqMsg.den) : dsz tfqMsg m = 1 + (1 + (1 + (1 + (1 + (((m.2.2.2.2.2.1.map (dsz tfqTopic)).sum + 1) + (0)))))) := rfl
theorem wt_fqP (p : tfqPart.den) : spWt (spfqF p) ≤ 3 * dsz tfqPart p := by
  rw [dsz_fqP]
  show spWt (ndRow [ndNum 3 p.1, ndNum 3 p.2.2.1, ndNum 4 p.2.1, ndNum 3 p.2.2.2.1]) ≤ _
  rw [spWt_row, spWts_cons, spWts_cons, spWts_cons, spWts_cons, spWts_nil, spWt_num, spWt_num, spWt_num, spWt_num]
  omega
theorem wt_fqT (t : tfqTopic.den) : spWt (spfqFT t) ≤ 3 * dsz tfqTopic t := by
  have h := wts_map (T := tfqPart) (F := spfqF) (c := 3) (l := t.2.1) fun p _ => wt_fqP p
  rw [dsz_fqT]
  show spWt (ndRow [ndText t.1, ndRows (t.2.1.map spfqF)]) ≤ _
  rw [spWt_row, spWts_cons, spWts_cons, spWts_nil, spWt_text, spWt_rows]
  omega
theorem fq_bulk {m : tfqMsg.den} (h : dsz tfqMsg m ≤ 1048576) : spSmfq m = true := by
  have h1 := wts_map (T := tfqTopic) (F := spfqFT) (c := 3) (l := m.2.2.2.2.2.1) fun t _ => wt_fqT t
  have h2 := sum_len (T := tfqTopic) (fun t => by rw [dsz_fqT]; omega) m.2.2.2.2.2.1
  rw [dsz_fqM] at h
  have hp : ∀ t ∈ m.2.2.2.2.2.1, t.2.1.length ≤ 1048576 := fun t htm => by
    have a1 := sum_mem (T := tfqTopic) htm
    rw [dsz_fqT] at a1
    have a2 := sum_len (T := tfqPart) (fun p => by rw [dsz_fqP]; omega) t.2.1
    omega
  unfold spSmfq
  simp only [Bool.and_eq_true, decide_eq_true_eq]
  refine ⟨?_, ?_⟩
  · unfold spfqLens
    simp only [Bool.and_eq_true, decide_eq_true_eq]
    refine ⟨by omega, List.all_eq_true.2 fun t htm => decide_eq_true ?_⟩
    have := hp t htm
    omega
  · unfold spfqFull
    show 8 * spWt (ndRow [ndNum 3 m.1, ndNum 3 m.2.1, ndNum 3 m.2.2.1, ndNum 3 m.2.2.2.1, ndNum 1 m.2.2.2.2.1, ndRows (m.2.2.2.2.2.1.map spfqFT)]) ≤ _
    rw [spWt_row, spWts_cons, spWts_cons, spWts_cons, spWts_cons, spWts_cons, spWts_cons, spWts_nil, spWt_num, spWt_num, spWt_num, spWt_num, spWt_num, spWt_rows]
    omega
end
end Go.Proofs.YtjpeefegeobgfaaGreat.Sym
