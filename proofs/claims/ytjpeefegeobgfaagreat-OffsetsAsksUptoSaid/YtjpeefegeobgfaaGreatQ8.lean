/- offsets.EncodeRep: what it writes. -/
import Derived.Test.YtjpeefegeobgfaaGreatQ7

namespace Go.Proofs.YtjpeefegeobgfaaGreat.Sym
open Go
set_option linter.unusedSimpArgs false
set_option linter.unusedVariables false
noncomputable section
abbrev torPart : Ty := .prod (.int .i32) (.prod (.int .i16) (.prod (.sl 2 (.int .i64)) (.prod (.int .i64) (.prod (.int .i64) (.prod (.int .i32) .unit)))))
abbrev torTopic : Ty := .prod .str (.prod (.sl 57 torPart) .unit)
abbrev torMsg : Ty := .prod (.int .i32) (.prod (.sl 53 torTopic) .unit)
def sporPE (v : Int) (p : torPart.den) (s : EnS) : EnS := spHasE v 3 3 p.2.2.2.2.2.1 4 (spHasE v 1 3 p.2.2.2.2.1 8 (spHasE v 1 3 p.2.2.2.1 8 (spHasNs v 0 0 p.2.2.1 (spPutE p.2.1 2 (spPutE p.1 4 (s))))))
theorem sporPE_le {s : EnS} (v : Int) (p : torPart.den) (h : s.2.2.length ≤ 130048) : (sporPE v p s).2.2.length ≤ 130048 :=
  spHasE_le _ _ _ _ _ (spHasE_le _ _ _ _ _ (spHasE_le _ _ _ _ _ (spHasNs_le _ _ _ _ (spPutE_le _ _ (spPutE_le _ _ (h))))))
abbrev ioorPart : Io := ⟨[.dat torPart true false, .ptr 0 0], oEnc1, [], [], none⟩
def ForPart (d : ioorPart.In) : Tr ioorPart.Res := .ite (encOk d.2.2) (.ret (.ret ((), encOut1 d.2.2.1.2.1 (sporPE d.2.2.1.2.1 d.1.1 (encSt d.2.2))))) .no
abbrev csorPart : List (Nat × Hc) := [(76, ioHd ioeI16 FeI16), (56, ioHd ioeI32 FeI32), (64, ioHd ioeI64 FeI64), (77, ioHd ioeNs FeNs), (57, ioHd ioeHas FeHas)]
def hdorPart : Hd := hdT csorPart
def lporPart : Lp := lpT []
def bodyorPart (a0 : Int) (a1 : Int) (a2 : List Int) (a3 : Int) (a4 : Int) (a5 : Int) (a6 : Int) (a7 : Int) (a8 : Bool) (a9 : List Int) (a10 : Int) : Option ioorPart.Res := bif decide (a10 = 130048) && decide (a9.length ≤ 130048) then bif decide (130048 = 130048) && decide ((spPutE a0 4 (a7, a8, a9)).snd.snd.length ≤ 130048) then bif decide (130048 = 130048) && decide ((spPutE a1 2 (spPutE a0 4 (a7, a8, a9))).snd.snd.length ≤ 130048) then bif decide (0 ≤ a6) && decide (a6 ≤ 0) then bif decide (130048 = 130048) && decide ((spPutE a1 2 (spPutE a0 4 (a7, a8, a9))).snd.snd.length ≤ 130048) then bif decide (130048 = 130048) && decide ((spNsE a2 (spPutE a1 2 (spPutE a0 4 (a7, a8, a9)))).snd.snd.length ≤ 130048) then bif decide (1 ≤ a6) && decide (a6 ≤ 3) then bif decide (130048 = 130048) && decide ((spNsE a2 (spPutE a1 2 (spPutE a0 4 (a7, a8, a9)))).snd.snd.length ≤ 130048) then bif decide (130048 = 130048) && decide ((spPutE a3 8 (spNsE a2 (spPutE a1 2 (spPutE a0 4 (a7, a8, a9))))).snd.snd.length ≤ 130048) then bif decide (130048 = 130048) && decide ((spPutE a4 8 (spPutE a3 8 (spNsE a2 (spPutE a1 2 (spPutE a0 4 (a7, a8, a9)))))).snd.snd.length ≤ 130048) then bif decide (3 ≤ a6) && decide (a6 ≤ 3) then bif decide (130048 = 130048) && decide ((spPutE a4 8 (spPutE a3 8 (spNsE a2 (spPutE a1 2 (spPutE a0 4 (a7, a8, a9)))))).snd.snd.length ≤ 130048) then some (Out.ret ((), ((), ()), ((), a6, (spPutE a5 4 (spPutE a4 8 (spPutE a3 8 (spNsE a2 (spPutE a1 2 (spPutE a0 4 (a7, a8, a9))))))).fst, (spPutE a5 4 (spPutE a4 8 (spPutE a3 8 (spNsE a2 (spPutE a1 2 (spPutE a0 4 (a7, a8, a9))))))).snd.fst, ()), ((spPutE a5 4 (spPutE a4 8 (spPutE a3 8 (spNsE a2 (spPutE a1 2 (spPutE a0 4 (a7, a8, a9))))))).snd.snd, 130048, ()), ())) else none else some (Out.ret ((), ((), ()), ((), a6, (spPutE a4 8 (spPutE a3 8 (spNsE a2 (spPutE a1 2 (spPutE a0 4 (a7, a8, a9)))))).fst, (spPutE a4 8 (spPutE a3 8 (spNsE a2 (spPutE a1 2 (spPutE a0 4 (a7, a8, a9)))))).snd.fst, ()), ((spPutE a4 8 (spPutE a3 8 (spNsE a2 (spPutE a1 2 (spPutE a0 4 (a7, a8, a9)))))).snd.snd, 130048, ()), ())) else none else none else none else bif decide (130048 = 130048) && decide ((spNsE a2 (spPutE a1 2 (spPutE a0 4 (a7, a8, a9)))).snd.snd.length ≤ 130048) then bif decide (3 ≤ a6) && decide (a6 ≤ 3) then bif decide (130048 = 130048) && decide ((spNsE a2 (spPutE a1 2 (spPutE a0 4 (a7, a8, a9)))).snd.snd.length ≤ 130048) then some (Out.ret ((), ((), ()), ((), a6, (spPutE a5 4 (spNsE a2 (spPutE a1 2 (spPutE a0 4 (a7, a8, a9))))).fst, (spPutE a5 4 (spNsE a2 (spPutE a1 2 (spPutE a0 4 (a7, a8, a9))))).snd.fst, ()), ((spPutE a5 4 (spNsE a2 (spPutE a1 2 (spPutE a0 4 (a7, a8, a9))))).snd.snd, 130048, ()), ())) else none else some (Out.ret ((), ((), ()), ((), a6, (spNsE a2 (spPutE a1 2 (spPutE a0 4 (a7, a8, a9)))).fst, (spNsE a2 (spPutE a1 2 (spPutE a0 4 (a7, a8, a9)))).snd.fst, ()), ((spNsE a2 (spPutE a1 2 (spPutE a0 4 (a7, a8, a9)))).snd.snd, 130048, ()), ())) else none else none else none else bif decide (130048 = 130048) && decide ((spPutE a1 2 (spPutE a0 4 (a7, a8, a9))).snd.snd.length ≤ 130048) then bif decide (1 ≤ a6) && decide (a6 ≤ 3) then bif decide (130048 = 130048) && decide ((spPutE a1 2 (spPutE a0 4 (a7, a8, a9))).snd.snd.length ≤ 130048) then bif decide (130048 = 130048) && decide ((spPutE a3 8 (spPutE a1 2 (spPutE a0 4 (a7, a8, a9)))).snd.snd.length ≤ 130048) then bif decide (130048 = 130048) && decide ((spPutE a4 8 (spPutE a3 8 (spPutE a1 2 (spPutE a0 4 (a7, a8, a9))))).snd.snd.length ≤ 130048) then bif decide (3 ≤ a6) && decide (a6 ≤ 3) then bif decide (130048 = 130048) && decide ((spPutE a4 8 (spPutE a3 8 (spPutE a1 2 (spPutE a0 4 (a7, a8, a9))))).snd.snd.length ≤ 130048) then some (Out.ret ((), ((), ()), ((), a6, (spPutE a5 4 (spPutE a4 8 (spPutE a3 8 (spPutE a1 2 (spPutE a0 4 (a7, a8, a9)))))).fst, (spPutE a5 4 (spPutE a4 8 (spPutE a3 8 (spPutE a1 2 (spPutE a0 4 (a7, a8, a9)))))).snd.fst, ()), ((spPutE a5 4 (spPutE a4 8 (spPutE a3 8 (spPutE a1 2 (spPutE a0 4 (a7, a8, a9)))))).snd.snd, 130048, ()), ())) else none else some (Out.ret ((), ((), ()), ((), a6, (spPutE a4 8 (spPutE a3 8 (spPutE a1 2 (spPutE a0 4 (a7, a8, a9))))).fst, (spPutE a4 8 (spPutE a3 8 (spPutE a1 2 (spPutE a0 4 (a7, a8, a9))))).snd.fst, ()), ((spPutE a4 8 (spPutE a3 8 (spPutE a1 2 (spPutE a0 4 (a7, a8, a9))))).snd.snd, 130048, ()), ())) else none else none else none else bif decide (130048 = 130048) && decide ((spPutE a1 2 (spPutE a0 4 (a7, a8, a9))).snd.snd.length ≤ 130048) then bif decide (3 ≤ a6) && decide (a6 ≤ 3) then bif decide (130048 = 130048) && decide ((spPutE a1 2 (spPutE a0 4 (a7, a8, a9))).snd.snd.length ≤ 130048) then some (Out.ret ((), ((), ()), ((), a6, (spPutE a5 4 (spPutE a1 2 (spPutE a0 4 (a7, a8, a9)))).fst, (spPutE a5 4 (spPutE a1 2 (spPutE a0 4 (a7, a8, a9)))).snd.fst, ()), ((spPutE a5 4 (spPutE a1 2 (spPutE a0 4 (a7, a8, a9)))).snd.snd, 130048, ()), ())) else none else some (Out.ret ((), ((), ()), ((), a6, (spPutE a1 2 (spPutE a0 4 (a7, a8, a9))).fst, (spPutE a1 2 (spPutE a0 4 (a7, a8, a9))).snd.fst, ()), ((spPutE a1 2 (spPutE a0 4 (a7, a8, a9))).snd.snd, 130048, ()), ())) else none else none else none else none else none
theorem runorPart (a0 : Int) (a1 : Int) (a2 : List Int) (a3 : Int) (a4 : Int) (a5 : Int) (a6 : Int) (a7 : Int) (a8 : Bool) (a9 : List Int) (a10 : Int) : Io.run tt hdorPart dr lporPart ioorPart Go.Proofs.Tryz.f75 (((a0, a1, a2, a3, a4, a5, ()), (), ()), ((), ()), ((), a6, a7, a8, ()), (a9, a10, ()), ()) = bodyorPart a0 a1 a2 a3 a4 a5 a6 a7 a8 a9 a10 := by kernel_rfl
theorem okorPart : HcOk prog 75 (ioHd ioorPart ForPart) := by
  refine fn_sound (n := 400) hm (cs := csorPart) (.cons okeI16 (.cons okeI32 (.cons okeI64 (.cons okeNs (.cons okeHas .nil))))) (lp := lporPart) (fn := Go.Proofs.Tryz.f75) (by kernel_rfl) (by kernel_rfl) (by kernel_rfl) ioorPart (.done (by kernel_rfl)) ForPart ?_
  rintro ⟨⟨⟨(ix : Int), (cd : Int), (of : List Int), (ti : Int), (fo : Int), (ep : Int), ⟨⟩⟩, ⟨⟩, ⟨⟩⟩, ⟨⟨⟩, ⟨⟩⟩, ⟨⟨⟩, (v : Int), (e : Int), (f : Bool), ⟨⟩⟩, ⟨(b : List Int), (m : Int), ⟨⟩⟩, ⟨⟩⟩ out hw ho
  obtain ⟨hg, ho⟩ := Tr.guard ho
  obtain ⟨rfl, hb⟩ := encOk_iff (v := v) (e := e) (f := f) hg
  cases ho
  refine (runorPart ix cd of ti fo ep v e f b 130048).trans ?_
  unfold bodyorPart
  have hg : ∀ s : EnS, s.2.2.length ≤ 130048 → (decide ((130048 : Int) = 130048) && decide (s.2.2.length ≤ 130048)) = true := fun s h => by simpa using h
  have hb : (e, (f, b)).2.2.length ≤ 130048 := hb
  show _ = some (Out.ret ((), encOut1 v (sporPE v (ix, (cd, (of, (ti, (fo, (ep, ())))))) (e, f, b))))
  refine (bif_true (hg _ hb) _ _).trans ?_
  have l0_1 := spPutE_le ix 4 hb
  refine (bif_true (hg _ l0_1) _ _).trans ?_
  have l1_1 := spPutE_le cd 2 l0_1
  refine (bif_true (hg _ l1_1) _ _).trans ?_
  by_cases h2_1 : 0 ≤ v ∧ v ≤ 0
  · refine (bif_true (by simpa using h2_1) _ _).trans ?_
    refine (bif_true (hg _ l1_1) _ _).trans ?_
    have l2_1 := spNsE_le of l1_1
    refine (bif_true (hg _ l2_1) _ _).trans ?_
    by_cases h3_2 : 1 ≤ v ∧ v ≤ 3
    · refine (bif_true (by simpa using h3_2) _ _).trans ?_
      refine (bif_true (hg _ l2_1) _ _).trans ?_
      have l3_2 := spPutE_le ti 8 l2_1
      refine (bif_true (hg _ l3_2) _ _).trans ?_
      have l4_3 := spPutE_le fo 8 l3_2
      refine (bif_true (hg _ l4_3) _ _).trans ?_
      by_cases h5_3 : 3 ≤ v ∧ v ≤ 3
      · refine (bif_true (by simpa using h5_3) _ _).trans ?_
        refine (bif_true (hg _ l4_3) _ _).trans ?_
        have l5_3 := spPutE_le ep 4 l4_3
        simp only [sporPE, spHasNs_in h2_1, spHasE_in h3_2, spHasE_in h3_2, spHasE_in h5_3]
      · refine (bif_false (Bool.eq_false_iff.2 fun h' => h5_3 (by simpa using h')) _ _).trans ?_
        simp only [sporPE, spHasNs_in h2_1, spHasE_in h3_2, spHasE_in h3_2, spHasE_out h5_3]
    · refine (bif_false (Bool.eq_false_iff.2 fun h' => h3_2 (by simpa using h')) _ _).trans ?_
      refine (bif_true (hg _ l2_1) _ _).trans ?_
      by_cases h5_3 : 3 ≤ v ∧ v ≤ 3
      · refine (bif_true (by simpa using h5_3) _ _).trans ?_
        refine (bif_true (hg _ l2_1) _ _).trans ?_
        have l5_3 := spPutE_le ep 4 l2_1
        simp only [sporPE, spHasNs_in h2_1, spHasE_out h3_2, spHasE_out h3_2, spHasE_in h5_3]
      · refine (bif_false (Bool.eq_false_iff.2 fun h' => h5_3 (by simpa using h')) _ _).trans ?_
        simp only [sporPE, spHasNs_in h2_1, spHasE_out h3_2, spHasE_out h3_2, spHasE_out h5_3]
  · refine (bif_false (Bool.eq_false_iff.2 fun h' => h2_1 (by simpa using h')) _ _).trans ?_
    refine (bif_true (hg _ l1_1) _ _).trans ?_
    by_cases h3_2 : 1 ≤ v ∧ v ≤ 3
    · refine (bif_true (by simpa using h3_2) _ _).trans ?_
      refine (bif_true (hg _ l1_1) _ _).trans ?_
      have l3_2 := spPutE_le ti 8 l1_1
      refine (bif_true (hg _ l3_2) _ _).trans ?_
      have l4_3 := spPutE_le fo 8 l3_2
      refine (bif_true (hg _ l4_3) _ _).trans ?_
      by_cases h5_3 : 3 ≤ v ∧ v ≤ 3
      · refine (bif_true (by simpa using h5_3) _ _).trans ?_
        refine (bif_true (hg _ l4_3) _ _).trans ?_
        have l5_3 := spPutE_le ep 4 l4_3
        simp only [sporPE, spHasNs_out h2_1, spHasE_in h3_2, spHasE_in h3_2, spHasE_in h5_3]
      · refine (bif_false (Bool.eq_false_iff.2 fun h' => h5_3 (by simpa using h')) _ _).trans ?_
        simp only [sporPE, spHasNs_out h2_1, spHasE_in h3_2, spHasE_in h3_2, spHasE_out h5_3]
    · refine (bif_false (Bool.eq_false_iff.2 fun h' => h3_2 (by simpa using h')) _ _).trans ?_
      refine (bif_true (hg _ l1_1) _ _).trans ?_
      by_cases h5_3 : 3 ≤ v ∧ v ≤ 3
      · refine (bif_true (by simpa using h5_3) _ _).trans ?_
        refine (bif_true (hg _ l1_1) _ _).trans ?_
        have l5_3 := spPutE_le ep 4 l1_1
        simp only [sporPE, spHasNs_out h2_1, spHasE_out h3_2, spHasE_out h3_2, spHasE_in h5_3]
      · refine (bif_false (Bool.eq_false_iff.2 fun h' => h5_3 (by simpa using h')) _ _).trans ?_
        simp only [sporPE, spHasNs_out h2_1, spHasE_out h3_2, spHasE_out h3_2, spHasE_out h5_3]
def sporPsE (v : Int) (xs : List torPart.den) (s : EnS) : EnS := spItems (sporPE v) xs s
abbrev ioorParts : Io := ⟨[.ptr 0 0, .dat (.sl 57 torPart) false false, .fnc 75 false [2]], oEncC, [], [], none⟩
def ForParts (d : ioorParts.In) : Tr ioorParts.Res := .ite (encOkC d.2) (.ret (.ret ((), encOutC d.2.1.2.1 (sporPsE d.2.1.2.1 d.1.2.1 (encStC d.2))))) .no
abbrev csorParts : List (Nat × Hc) := [(137, ioHd ioeFail FeFail), (56, ioHd ioeI32 FeI32), (75, ioHd ioorPart ForPart)]
def hdorParts : Hd := hdT csorParts
abbrev loorParts_5 : Lo := ⟨⟨[.any, .any, .one (.fnp 75 false [2]), .any, .any, .any, .any, .any, .any, .any, .any, .any, .any, .any, .any, .any, .any, .any, .one (.hol (.sl 57 torPart)), .one (.hol (.int IntKind.i64)), .one (.hol (.int IntKind.i64)), .any, .any, .any, .any, .any, .any, .any], [some [.ptr 1 0, .hol (.int IntKind.i64), .hol (.int IntKind.i64), .hol .bool], some [.onl 5 (Ty.int IntKind.u8) 514, .hol (.int IntKind.i64)], some [.ptr 0 0]]⟩, [(.exit 0, ⟨[.any, .any, .any, .any, .any, .any, .any, .any, .any, .any, .any, .any, .any, .any, .any, .any, .any, .any, .any, .any, .any, .any, .any, .any, .any, .any, .any, .any], [some [.ptr 1 0, .hol (.int IntKind.i64), .hol (.int IntKind.i64), .hol .bool], some [.onl 5 (Ty.int IntKind.u8) 514, .hol (.int IntKind.i64)], some [.ptr 0 0]]⟩)]⟩
-- ForParts_5 : loorParts_5.st.den → Tr (DenX loorParts_5.xs) | ((h6, (h7, (h8, ()))), ((h9, (h10, (h11, ()))), ((h12, (h13, ())), ((), ()))))
def ForParts_5 (d : loorParts_5.st.den) : Tr (DenX loorParts_5.xs) :=
  .ite (decide (d.1.2.2.1 = 0) && (decide (d.1.2.1 = (d.1.1.length : Int)) && (decide (d.2.2.1.2.1 = 130048) && decide (d.2.2.1.1.length ≤ 130048)))) (.ret (.ret ((), ((), encOutB d.2.1.1 (d.1.1.foldl (fun s x => sporPE d.2.1.1 x s) (d.2.1.2.1, (d.2.1.2.2.1, d.2.2.1.1))))))) .no
def lporParts : Lp := lpT [(5, loHd loorParts_5 ForParts_5)]
def steporParts_5 {R : Type} (h6 : List torPart.den) (h7 : Int) (h8 : Int) (h9 : Int) (h10 : Int) (h11 : Bool) (h12 : List Int) (h13 : Int) (next : List torPart.den → Int → Int → Int → Int → Bool → List Int → Int → Option R) (out : DenX loorParts_5.xs → Option R) : Option R := bif decide (h8 < h7) then bif decide (0 ≤ h8) && decide (h8 < (↑h6.length : Int)) then bif decide (h13 = 130048) && decide (h12.length ≤ 130048) then next (h6) (h7) (IntKind.i64.wrap (h8 + 1)) (h9) ((sporPE h9 (h6.getD h8.toNat (0, 0, [], 0, 0, 0, ())) (h10, h11, h12)).fst) ((sporPE h9 (h6.getD h8.toNat (0, 0, [], 0, 0, 0, ())) (h10, h11, h12)).snd.fst) ((sporPE h9 (h6.getD h8.toNat (0, 0, [], 0, 0, 0, ())) (h10, h11, h12)).snd.snd) (130048) else none else none else out (.ret ((), ((), ((h9, (h10, (h11, ()))), ((h12, (h13, ())), ((), ()))))))
def itorParts_5 (n : Nat) (h6 : List torPart.den) (h7 : Int) (h8 : Int) (h9 : Int) (h10 : Int) (h11 : Bool) (h12 : List Int) (h13 : Int) : Option (DenX loorParts_5.xs) := lpN tt hdorParts dr lporParts 3 Go.Proofs.Tryz.f74 (topL Go.Proofs.Tryz.f74 0) n (loorParts_5.st.mk' ((h6, (h7, (h8, ()))), ((h9, (h10, (h11, ()))), ((h12, (h13, ())), ((), ()))))) (decX loorParts_5.xs)
theorem slorParts_5 (n : Nat) (h6 : List torPart.den) (h7 : Int) (h8 : Int) (h9 : Int) (h10 : Int) (h11 : Bool) (h12 : List Int) (h13 : Int) : itorParts_5 (n + 1) h6 h7 h8 h9 h10 h11 h12 h13 = steporParts_5 h6 h7 h8 h9 h10 h11 h12 h13 (itorParts_5 n) some := by kernel_rfl
theorem looporParts {xs : List torPart.den} (v : Int) (hl : xs.length ≤ maxLen) : ∀ (k i : Nat) (s : EnS), xs.length < i + k → i ≤ xs.length → s.2.2.length ≤ 130048 →
    itorParts_5 k xs (xs.length : Int) i v s.1 s.2.1 s.2.2 130048 = some (.ret ((), ((), encOutB v ((xs.drop i).foldl (fun s x => sporPE v x s) s)))) := by
  intro k
  induction k with
  | zero => intro i s h; omega
  | succ k ih =>
    intro i s h1 h2 h3
    rw [slorParts_5]
    unfold steporParts_5
    by_cases hi : i < xs.length
    · refine (bif_true (decide_eq_true (show (i : Int) < (xs.length : Int) by omega)) _ _).trans ?_
      refine (bif_true (by simpa using hi) _ _).trans ?_
      simp only [Int.toNat_natCast, getD_lt hi, wrap_succ hi hl]
      have g : (decide ((130048 : Int) = 130048) && decide (s.2.2.length ≤ 130048)) = true := by
        simpa using h3
      refine (bif_true g _ _).trans ?_
      rw [List.drop_eq_getElem_cons hi]
      exact ih (i + 1) (sporPE v xs[i] s) (by omega) (by omega) (sporPE_le v _ h3)
    · refine (bif_false (by simp; omega) _ _).trans ?_
      rw [List.drop_of_length_le (by omega)]
      rfl
def bodyorParts (a0 : List torPart.den) (a1 : Int) (a2 : Int) (a3 : Bool) (a4 : List Int) (a5 : Int) : Option ioorParts.Res := bif decide (16 < (↑a0.length : Int)) then bif decide (a5 = 130048) && decide (a4.length ≤ 130048) then some (Out.ret ((), ((), a1, (spFail 9 (a2, a3, a4)).fst, (spFail 9 (a2, a3, a4)).snd.fst, ()), ((spFail 9 (a2, a3, a4)).snd.snd, 130048, ()), ((), ()), ())) else none else bif decide (a5 = 130048) && decide (a4.length ≤ 130048) then (ForParts_5 ((a0, ((↑a0.length : Int), (0, ()))), ((a1, ((spPutE (IntKind.i32.wrap (↑a0.length : Int)) 4 (a2, a3, a4)).fst, ((spPutE (IntKind.i32.wrap (↑a0.length : Int)) 4 (a2, a3, a4)).snd.fst, ()))), (((spPutE (IntKind.i32.wrap (↑a0.length : Int)) 4 (a2, a3, a4)).snd.snd, (130048, ())), ((), ()))))).run fun y => match y with | .ret ((), ((), (x27, x28, x29, ()), (x30, x31, ()), (), ())) => (some (Out.ret ((), ((), x27, x28, x29, ()), (x30, x31, ()), ((), ()), ()))) else none
theorem runorParts (a0 : List torPart.den) (a1 : Int) (a2 : Int) (a3 : Bool) (a4 : List Int) (a5 : Int) : Io.run tt hdorParts dr lporParts ioorParts Go.Proofs.Tryz.f74 (((), a0, (), ()), ((), a1, a2, a3, ()), (a4, a5, ()), ((), ()), ()) = bodyorParts a0 a1 a2 a3 a4 a5 := by kernel_rfl
theorem okorParts : HcOk prog 74 (ioHd ioorParts ForParts) := by
  refine fn_sound (n := 400) hm (cs := csorParts) (.cons okeFail (.cons okeI32 (.cons okorPart .nil))) (lp := lporParts) (fn := Go.Proofs.Tryz.f74) (by kernel_rfl) (by kernel_rfl) (by kernel_rfl) ioorParts (.step (h0 := loHd loorParts_5 ForParts_5) (by kernel_rfl) (loop_sound (n := 400) hm (cs := csorParts) (.cons okeFail (.cons okeI32 (.cons okorPart .nil))) (lp := lporParts) (fn := Go.Proofs.Tryz.f74) (.done (by kernel_rfl)) loorParts_5 ForParts_5 ?_) (.done (by kernel_rfl))) ForParts ?_
  · rintro ⟨⟨(xs : List torPart.den), (n : Int), (i : Int), ⟨⟩⟩, ⟨⟨(v : Int), (e : Int), (f : Bool), ⟨⟩⟩, ⟨(b : List Int), (m : Int), ⟨⟩⟩, ⟨⟨⟩, ⟨⟩⟩⟩⟩ y hw hy
    obtain ⟨hg, hy⟩ := Tr.guard hy
    simp only [Bool.and_eq_true, decide_eq_true_eq] at hg
    obtain ⟨rfl, rfl, rfl, h4⟩ := hg
    have h4 : b.length ≤ 130048 := h4
    have hl : xs.length ≤ maxLen := hw.1.1.1
    refine ⟨xs.length + 1, (looporParts v hl (xs.length + 1) 0 (e, (f, b)) (by omega) (by omega) h4).trans ?_⟩
    rw [← hy]; rfl
  · rintro ⟨⟨⟨⟩, (xs : List torPart.den), ⟨⟩, ⟨⟩⟩, ⟨⟨⟩, (v : Int), (e : Int), (f : Bool), ⟨⟩⟩, ⟨(b : List Int), (m : Int), ⟨⟩⟩, ⟨⟨⟩, ⟨⟩⟩, ⟨⟩⟩ out hw ho
    obtain ⟨hg, ho⟩ := Tr.guard ho
    obtain ⟨rfl, hb⟩ := encOk_iff (v := v) (e := e) (f := f) hg
    cases ho
    refine (runorParts xs v e f b 130048).trans ?_
    unfold bodyorParts
    have g : (decide ((130048 : Int) = 130048) && decide (b.length ≤ 130048)) = true := by simpa using hb
    show _ = some (Out.ret ((), encOutC v (spItems (sporPE v) xs (e, f, b))))
    unfold spItems
    by_cases h : 16 < (xs.length : Int)
    · rw [if_pos h]
      refine (bif_true (decide_eq_true h) _ _).trans ?_
      exact bif_true g _ _
    · rw [if_neg h]
      refine (bif_false (decide_eq_false h) _ _).trans ?_
      refine (bif_true g _ _).trans ?_
      have hw32 : IntKind.i32.wrap (xs.length : Int) = xs.length := wrap_id (by simp [inR, IntKind.min, IntKind.max, IntKind.signed, IntKind.bits]; omega)
      rw [hw32]
      have c1 : (decide ((0 : Int) = 0) && (decide ((xs.length : Int) = (xs.length : Int)) && (decide ((130048 : Int) = 130048) && decide ((spPutE xs.length 4 (e, f, b)).2.2.length ≤ 130048)))) = true := by
        simpa using spPutE_le (s := (e, f, b)) _ 4 hb
      have e1 : ForParts_5 ((xs, ((xs.length : Int), (0, ()))), ((v, ((spPutE xs.length 4 (e, f, b)).1, ((spPutE xs.length 4 (e, f, b)).2.1, ()))), (((spPutE xs.length 4 (e, f, b)).2.2, (130048, ())), ((), ())))) =
          .ite true (.ret (.ret ((), ((), encOutB v (xs.foldl (fun s x => sporPE v x s) (spPutE xs.length 4 (e, f, b))))))) .no := congrArg (fun c => Tr.ite c _ _) c1
      rw [e1]
      rfl
def sporTE (v : Int) (t : torTopic.den) (s : EnS) : EnS := sporPsE v t.2.1 (spStrE t.1 s)
abbrev ioorTopic : Io := ⟨[.dat torTopic true false, .ptr 0 0], oEnc1, [], [], none⟩
def ForTopic (d : ioorTopic.In) : Tr ioorTopic.Res := .ite (encOk d.2.2) (.ret (.ret ((), encOut1 d.2.2.1.2.1 (sporTE d.2.2.1.2.1 d.1.1 (encSt d.2.2))))) .no
abbrev csorTopic : List (Nat × Hc) := [(61, ioHd ioeStr FeStr), (74, ioHd ioorParts ForParts)]
def hdorTopic : Hd := hdT csorTopic
def lporTopic : Lp := lpT []
def bodyorTopic (a0 : List Int) (a1 : List torPart.den) (a2 : Int) (a3 : Int) (a4 : Bool) (a5 : List Int) (a6 : Int) : Option ioorTopic.Res := bif decide (a6 = 130048) && decide (a5.length ≤ 130048) then bif decide (130048 = 130048) && decide ((spStrE a0 (a3, a4, a5)).snd.snd.length ≤ 130048) then some (Out.ret ((), ((), ()), ((), a2, (sporPsE a2 a1 (spStrE a0 (a3, a4, a5))).fst, (sporPsE a2 a1 (spStrE a0 (a3, a4, a5))).snd.fst, ()), ((sporPsE a2 a1 (spStrE a0 (a3, a4, a5))).snd.snd, 130048, ()), ())) else none else none
theorem runorTopic (a0 : List Int) (a1 : List torPart.den) (a2 : Int) (a3 : Int) (a4 : Bool) (a5 : List Int) (a6 : Int) : Io.run tt hdorTopic dr lporTopic ioorTopic Go.Proofs.Tryz.f73 (((a0, a1, ()), (), ()), ((), ()), ((), a2, a3, a4, ()), (a5, a6, ()), ()) = bodyorTopic a0 a1 a2 a3 a4 a5 a6 := by kernel_rfl
theorem okorTopic : HcOk prog 73 (ioHd ioorTopic ForTopic) := by
  refine fn_sound (n := 400) hm (cs := csorTopic) (.cons okeStr (.cons okorParts .nil)) (lp := lporTopic) (fn := Go.Proofs.Tryz.f73) (by kernel_rfl) (by kernel_rfl) (by kernel_rfl) ioorTopic (.done (by kernel_rfl)) ForTopic ?_
  rintro ⟨⟨⟨(t : List Int), (ps : List torPart.den), ⟨⟩⟩, ⟨⟩, ⟨⟩⟩, ⟨⟨⟩, ⟨⟩⟩, ⟨⟨⟩, (v : Int), (e : Int), (f : Bool), ⟨⟩⟩, ⟨(b : List Int), (m : Int), ⟨⟩⟩, ⟨⟩⟩ out hw ho
  obtain ⟨hg, ho⟩ := Tr.guard ho
  obtain ⟨rfl, hb⟩ := encOk_iff (v := v) (e := e) (f := f) hg
  cases ho
  refine (runorTopic t ps v e f b 130048).trans ?_
  unfold bodyorTopic
  refine (bif_true (by simpa using hb) _ _).trans ?_
  refine (bif_true (by simpa using spStrE_le (s := (e, f, b)) t hb) _ _).trans ?_
  rfl
theorem sporTE_le {s : EnS} (v : Int) (t : torTopic.den) (h : s.2.2.length ≤ 130048) : (sporTE v t s).2.2.length ≤ 130048 := spItems_le (fun x s => sporPE_le v x) _ (spStrE_le _ h)
def sporTsE (v : Int) (xs : List torTopic.den) (s : EnS) : EnS := spItems (sporTE v) xs s
abbrev ioorTopics : Io := ⟨[.ptr 0 0, .dat (.sl 53 torTopic) false false, .fnc 73 false [2]], oEncC, [], [], none⟩
def ForTopics (d : ioorTopics.In) : Tr ioorTopics.Res := .ite (encOkC d.2) (.ret (.ret ((), encOutC d.2.1.2.1 (sporTsE d.2.1.2.1 d.1.2.1 (encStC d.2))))) .no
abbrev csorTopics : List (Nat × Hc) := [(137, ioHd ioeFail FeFail), (56, ioHd ioeI32 FeI32), (73, ioHd ioorTopic ForTopic)]
def hdorTopics : Hd := hdT csorTopics
abbrev loorTopics_5 : Lo := ⟨⟨[.any, .any, .one (.fnp 73 false [2]), .any, .any, .any, .any, .any, .any, .any, .any, .any, .any, .any, .any, .any, .any, .any, .one (.hol (.sl 53 torTopic)), .one (.hol (.int IntKind.i64)), .one (.hol (.int IntKind.i64)), .any, .any, .any, .any, .any, .any, .any], [some [.ptr 1 0, .hol (.int IntKind.i64), .hol (.int IntKind.i64), .hol .bool], some [.onl 5 (Ty.int IntKind.u8) 514, .hol (.int IntKind.i64)], some [.ptr 0 0]]⟩, [(.exit 0, ⟨[.any, .any, .any, .any, .any, .any, .any, .any, .any, .any, .any, .any, .any, .any, .any, .any, .any, .any, .any, .any, .any, .any, .any, .any, .any, .any, .any, .any], [some [.ptr 1 0, .hol (.int IntKind.i64), .hol (.int IntKind.i64), .hol .bool], some [.onl 5 (Ty.int IntKind.u8) 514, .hol (.int IntKind.i64)], some [.ptr 0 0]]⟩)]⟩
-- ForTopics_5 : loorTopics_5.st.den → Tr (DenX loorTopics_5.xs) | ((h6, (h7, (h8, ()))), ((h9, (h10, (h11, ()))), ((h12, (h13, ())), ((), ()))))
def ForTopics_5 (d : loorTopics_5.st.den) : Tr (DenX loorTopics_5.xs) :=
  .ite (decide (d.1.2.2.1 = 0) && (decide (d.1.2.1 = (d.1.1.length : Int)) && (decide (d.2.2.1.2.1 = 130048) && decide (d.2.2.1.1.length ≤ 130048)))) (.ret (.ret ((), ((), encOutB d.2.1.1 (d.1.1.foldl (fun s x => sporTE d.2.1.1 x s) (d.2.1.2.1, (d.2.1.2.2.1, d.2.2.1.1))))))) .no
def lporTopics : Lp := lpT [(5, loHd loorTopics_5 ForTopics_5)]
def steporTopics_5 {R : Type} (h6 : List torTopic.den) (h7 : Int) (h8 : Int) (h9 : Int) (h10 : Int) (h11 : Bool) (h12 : List Int) (h13 : Int) (next : List torTopic.den → Int → Int → Int → Int → Bool → List Int → Int → Option R) (out : DenX loorTopics_5.xs → Option R) : Option R := bif decide (h8 < h7) then bif decide (0 ≤ h8) && decide (h8 < (↑h6.length : Int)) then bif decide (h13 = 130048) && decide (h12.length ≤ 130048) then next (h6) (h7) (IntKind.i64.wrap (h8 + 1)) (h9) ((sporTE h9 (h6.getD h8.toNat ([], [], ())) (h10, h11, h12)).fst) ((sporTE h9 (h6.getD h8.toNat ([], [], ())) (h10, h11, h12)).snd.fst) ((sporTE h9 (h6.getD h8.toNat ([], [], ())) (h10, h11, h12)).snd.snd) (130048) else none else none else out (.ret ((), ((), ((h9, (h10, (h11, ()))), ((h12, (h13, ())), ((), ()))))))
def itorTopics_5 (n : Nat) (h6 : List torTopic.den) (h7 : Int) (h8 : Int) (h9 : Int) (h10 : Int) (h11 : Bool) (h12 : List Int) (h13 : Int) : Option (DenX loorTopics_5.xs) := lpN tt hdorTopics dr lporTopics 3 Go.Proofs.Tryz.f72 (topL Go.Proofs.Tryz.f72 0) n (loorTopics_5.st.mk' ((h6, (h7, (h8, ()))), ((h9, (h10, (h11, ()))), ((h12, (h13, ())), ((), ()))))) (decX loorTopics_5.xs)
theorem slorTopics_5 (n : Nat) (h6 : List torTopic.den) (h7 : Int) (h8 : Int) (h9 : Int) (h10 : Int) (h11 : Bool) (h12 : List Int) (h13 : Int) : itorTopics_5 (n + 1) h6 h7 h8 h9 h10 h11 h12 h13 = steporTopics_5 h6 h7 h8 h9 h10 h11 h12 h13 (itorTopics_5 n) some := by kernel_rfl
theorem looporTopics {xs : List torTopic.den} (v : Int) (hl : xs.length ≤ maxLen) : ∀ (k i : Nat) (s : EnS), xs.length < i + k → i ≤ xs.length → s.2.2.length ≤ 130048 →
    itorTopics_5 k xs (xs.length : Int) i v s.1 s.2.1 s.2.2 130048 = some (.ret ((), ((), encOutB v ((xs.drop i).foldl (fun s x => sporTE v x s) s)))) := by
  intro k
  induction k with
  | zero => intro i s h; omega
  | succ k ih =>
    intro i s h1 h2 h3
    rw [slorTopics_5]
    unfold steporTopics_5
    by_cases hi : i < xs.length
    · refine (bif_true (decide_eq_true (show (i : Int) < (xs.length : Int) by omega)) _ _).trans ?_
      refine (bif_true (by simpa using hi) _ _).trans ?_
      simp only [Int.toNat_natCast, getD_lt hi, wrap_succ hi hl]
      have g : (decide ((130048 : Int) = 130048) && decide (s.2.2.length ≤ 130048)) = true := by
        simpa using h3
      refine (bif_true g _ _).trans ?_
      rw [List.drop_eq_getElem_cons hi]
      exact ih (i + 1) (sporTE v xs[i] s) (by omega) (by omega) (sporTE_le v _ h3)
    · refine (bif_false (by simp; omega) _ _).trans ?_
      rw [List.drop_of_length_le (by omega)]
      rfl
def bodyorTopics (a0 : List torTopic.den) (a1 : Int) (a2 : Int) (a3 : Bool) (a4 : List Int) (a5 : Int) : Option ioorTopics.Res := bif decide (16 < (↑a0.length : Int)) then bif decide (a5 = 130048) && decide (a4.length ≤ 130048) then some (Out.ret ((), ((), a1, (spFail 9 (a2, a3, a4)).fst, (spFail 9 (a2, a3, a4)).snd.fst, ()), ((spFail 9 (a2, a3, a4)).snd.snd, 130048, ()), ((), ()), ())) else none else bif decide (a5 = 130048) && decide (a4.length ≤ 130048) then (ForTopics_5 ((a0, ((↑a0.length : Int), (0, ()))), ((a1, ((spPutE (IntKind.i32.wrap (↑a0.length : Int)) 4 (a2, a3, a4)).fst, ((spPutE (IntKind.i32.wrap (↑a0.length : Int)) 4 (a2, a3, a4)).snd.fst, ()))), (((spPutE (IntKind.i32.wrap (↑a0.length : Int)) 4 (a2, a3, a4)).snd.snd, (130048, ())), ((), ()))))).run fun y => match y with | .ret ((), ((), (x27, x28, x29, ()), (x30, x31, ()), (), ())) => (some (Out.ret ((), ((), x27, x28, x29, ()), (x30, x31, ()), ((), ()), ()))) else none
theorem runorTopics (a0 : List torTopic.den) (a1 : Int) (a2 : Int) (a3 : Bool) (a4 : List Int) (a5 : Int) : Io.run tt hdorTopics dr lporTopics ioorTopics Go.Proofs.Tryz.f72 (((), a0, (), ()), ((), a1, a2, a3, ()), (a4, a5, ()), ((), ()), ()) = bodyorTopics a0 a1 a2 a3 a4 a5 := by kernel_rfl
theorem okorTopics : HcOk prog 72 (ioHd ioorTopics ForTopics) := by
  refine fn_sound (n := 400) hm (cs := csorTopics) (.cons okeFail (.cons okeI32 (.cons okorTopic .nil))) (lp := lporTopics) (fn := Go.Proofs.Tryz.f72) (by kernel_rfl) (by kernel_rfl) (by kernel_rfl) ioorTopics (.step (h0 := loHd loorTopics_5 ForTopics_5) (by kernel_rfl) (loop_sound (n := 400) hm (cs := csorTopics) (.cons okeFail (.cons okeI32 (.cons okorTopic .nil))) (lp := lporTopics) (fn := Go.Proofs.Tryz.f72) (.done (by kernel_rfl)) loorTopics_5 ForTopics_5 ?_) (.done (by kernel_rfl))) ForTopics ?_
  · rintro ⟨⟨(xs : List torTopic.den), (n : Int), (i : Int), ⟨⟩⟩, ⟨⟨(v : Int), (e : Int), (f : Bool), ⟨⟩⟩, ⟨(b : List Int), (m : Int), ⟨⟩⟩, ⟨⟨⟩, ⟨⟩⟩⟩⟩ y hw hy
    obtain ⟨hg, hy⟩ := Tr.guard hy
    simp only [Bool.and_eq_true, decide_eq_true_eq] at hg
    obtain ⟨rfl, rfl, rfl, h4⟩ := hg
    have h4 : b.length ≤ 130048 := h4
    have hl : xs.length ≤ maxLen := hw.1.1.1
    refine ⟨xs.length + 1, (looporTopics v hl (xs.length + 1) 0 (e, (f, b)) (by omega) (by omega) h4).trans ?_⟩
    rw [← hy]; rfl
  · rintro ⟨⟨⟨⟩, (xs : List torTopic.den), ⟨⟩, ⟨⟩⟩, ⟨⟨⟩, (v : Int), (e : Int), (f : Bool), ⟨⟩⟩, ⟨(b : List Int), (m : Int), ⟨⟩⟩, ⟨⟨⟩, ⟨⟩⟩, ⟨⟩⟩ out hw ho
    obtain ⟨hg, ho⟩ := Tr.guard ho
    obtain ⟨rfl, hb⟩ := encOk_iff (v := v) (e := e) (f := f) hg
    cases ho
    refine (runorTopics xs v e f b 130048).trans ?_
    unfold bodyorTopics
    have g : (decide ((130048 : Int) = 130048) && decide (b.length ≤ 130048)) = true := by simpa using hb
    show _ = some (Out.ret ((), encOutC v (spItems (sporTE v) xs (e, f, b))))
    unfold spItems
    by_cases h : 16 < (xs.length : Int)
    · rw [if_pos h]
      refine (bif_true (decide_eq_true h) _ _).trans ?_
      exact bif_true g _ _
    · rw [if_neg h]
      refine (bif_false (decide_eq_false h) _ _).trans ?_
      refine (bif_true g _ _).trans ?_
      have hw32 : IntKind.i32.wrap (xs.length : Int) = xs.length := wrap_id (by simp [inR, IntKind.min, IntKind.max, IntKind.signed, IntKind.bits]; omega)
      rw [hw32]
      have c1 : (decide ((0 : Int) = 0) && (decide ((xs.length : Int) = (xs.length : Int)) && (decide ((130048 : Int) = 130048) && decide ((spPutE xs.length 4 (e, f, b)).2.2.length ≤ 130048)))) = true := by
        simpa using spPutE_le (s := (e, f, b)) _ 4 hb
      have e1 : ForTopics_5 ((xs, ((xs.length : Int), (0, ()))), ((v, ((spPutE xs.length 4 (e, f, b)).1, ((spPutE xs.length 4 (e, f, b)).2.1, ()))), (((spPutE xs.length 4 (e, f, b)).2.2, (130048, ())), ((), ())))) =
          .ite true (.ret (.ret ((), ((), encOutB v (xs.foldl (fun s x => sporTE v x s) (spPutE xs.length 4 (e, f, b))))))) .no := congrArg (fun c => Tr.ite c _ _) c1
      rw [e1]
      rfl
def sporLP (v : Int) (p : torPart.den) (s : EnS) : EnS := spLacks v (p.2.2.2.2.2.1 == 0) 3 3 (spLacks v ((p.2.2.2.1 == 0) && (p.2.2.2.2.1 == 0)) 1 3 (spLacks v ((p.2.2.1.length : Int) == 0) 0 0 s))
abbrev ioorLacks : Io := ⟨[.ptr 0 0, .dat torPart true false], oEnc, [], [], none⟩
def ForLacks (d : ioorLacks.In) : Tr ioorLacks.Res := .ite (encOk d.2) (.ret (.ret ((), encOut d.2.1.2.1 (sporLP d.2.1.2.1 d.1.2.1 (encSt d.2))))) .no
abbrev csorLacks : List (Nat × Hc) := [(55, ioHd ioeLacks FeLacks)]
def hdorLacks : Hd := hdT csorLacks
def lporLacks : Lp := lpT []
def bodyorLacks (a0 : Int) (a1 : Int) (a2 : List Int) (a3 : Int) (a4 : Int) (a5 : Int) (a6 : Int) (a7 : Int) (a8 : Bool) (a9 : List Int) (a10 : Int) : Option ioorLacks.Res := bif decide (a10 = 130048) && decide (a9.length ≤ 130048) then bif a3 == 0 then bif decide (130048 = 130048) && decide ((spLacks a6 ((↑a2.length : Int) == 0) 0 0 (a7, a8, a9)).snd.snd.length ≤ 130048) then bif decide (130048 = 130048) && decide ((spLacks a6 (a4 == 0) 1 3 (spLacks a6 ((↑a2.length : Int) == 0) 0 0 (a7, a8, a9))).snd.snd.length ≤ 130048) then some (Out.ret ((), ((), a6, (spLacks a6 (a5 == 0) 3 3 (spLacks a6 (a4 == 0) 1 3 (spLacks a6 ((↑a2.length : Int) == 0) 0 0 (a7, a8, a9)))).fst, (spLacks a6 (a5 == 0) 3 3 (spLacks a6 (a4 == 0) 1 3 (spLacks a6 ((↑a2.length : Int) == 0) 0 0 (a7, a8, a9)))).snd.fst, ()), ((spLacks a6 (a5 == 0) 3 3 (spLacks a6 (a4 == 0) 1 3 (spLacks a6 ((↑a2.length : Int) == 0) 0 0 (a7, a8, a9)))).snd.snd, 130048, ()), ())) else none else none else bif decide (130048 = 130048) && decide ((spLacks a6 ((↑a2.length : Int) == 0) 0 0 (a7, a8, a9)).snd.snd.length ≤ 130048) then bif decide (130048 = 130048) && decide ((spLacks a6 false 1 3 (spLacks a6 ((↑a2.length : Int) == 0) 0 0 (a7, a8, a9))).snd.snd.length ≤ 130048) then some (Out.ret ((), ((), a6, (spLacks a6 (a5 == 0) 3 3 (spLacks a6 false 1 3 (spLacks a6 ((↑a2.length : Int) == 0) 0 0 (a7, a8, a9)))).fst, (spLacks a6 (a5 == 0) 3 3 (spLacks a6 false 1 3 (spLacks a6 ((↑a2.length : Int) == 0) 0 0 (a7, a8, a9)))).snd.fst, ()), ((spLacks a6 (a5 == 0) 3 3 (spLacks a6 false 1 3 (spLacks a6 ((↑a2.length : Int) == 0) 0 0 (a7, a8, a9)))).snd.snd, 130048, ()), ())) else none else none else none
theorem runorLacks (a0 : Int) (a1 : Int) (a2 : List Int) (a3 : Int) (a4 : Int) (a5 : Int) (a6 : Int) (a7 : Int) (a8 : Bool) (a9 : List Int) (a10 : Int) : Io.run tt hdorLacks dr lporLacks ioorLacks Go.Proofs.Tryz.f71 (((), (a0, a1, a2, a3, a4, a5, ()), ()), ((), a6, a7, a8, ()), (a9, a10, ()), ()) = bodyorLacks a0 a1 a2 a3 a4 a5 a6 a7 a8 a9 a10 := by kernel_rfl
theorem okorLacks : HcOk prog 71 (ioHd ioorLacks ForLacks) := by
  refine fn_sound (n := 400) hm (cs := csorLacks) (.cons okeLacks .nil) (lp := lporLacks) (fn := Go.Proofs.Tryz.f71) (by kernel_rfl) (by kernel_rfl) (by kernel_rfl) ioorLacks (.done (by kernel_rfl)) ForLacks ?_
  rintro ⟨⟨⟨⟩, ⟨(ix : Int), (cd : Int), (of : List Int), (ti : Int), (fo : Int), (ep : Int), ⟨⟩⟩, ⟨⟩⟩, ⟨⟨⟩, (v : Int), (e : Int), (f : Bool), ⟨⟩⟩, ⟨(b : List Int), (m : Int), ⟨⟩⟩, ⟨⟩⟩ out hw ho
  obtain ⟨hg, ho⟩ := Tr.guard ho
  obtain ⟨rfl, hb⟩ := encOk_iff (v := v) (e := e) (f := f) hg
  cases ho
  refine (runorLacks ix cd of ti fo ep v e f b 130048).trans ?_
  unfold bodyorLacks
  have hg : ∀ s : EnS, s.2.2.length ≤ 130048 → (decide ((130048 : Int) = 130048) && decide (s.2.2.length ≤ 130048)) = true := fun s h => by simpa using h
  have hb : (e, (f, b)).2.2.length ≤ 130048 := hb
  show _ = some (Out.ret ((), encOut v (sporLP v (ix, (cd, (of, (ti, (fo, (ep, ())))))) (e, f, b))))
  refine (bif_true (hg _ hb) _ _).trans ?_
  have q1 := spLacks_le (s := (e, f, b)) v ((of.length : Int) == 0) 0 0 hb
  by_cases ht : ti = 0
  · refine (bif_true (by simpa using ht) _ _).trans ?_
    refine (bif_true (hg _ q1) _ _).trans ?_
    have q2 := spLacks_le (s := spLacks v ((of.length : Int) == 0) 0 0 (e, f, b)) v (fo == 0) 1 3 q1
    refine (bif_true (hg _ q2) _ _).trans ?_
    subst ht
    rfl
  · have ht' : (ti == 0) = false := by simpa using ht
    refine (bif_false ht' _ _).trans ?_
    refine (bif_true (hg _ q1) _ _).trans ?_
    have q2 := spLacks_le (s := spLacks v ((of.length : Int) == 0) 0 0 (e, f, b)) v false 1 3 q1
    refine (bif_true (hg _ q2) _ _).trans ?_
    unfold sporLP
    dsimp only
    rw [ht']
    rfl
def sporLPs (v : Int) (ps : List torPart.den) (s : EnS) : EnS := ps.foldl (fun s p => sporLP v p s) s
def sporLR (v : Int) (ts : List torTopic.den) (s : EnS) : EnS := ts.foldl (fun s t => sporLPs v t.2.1 s) s
def sporE (v : Int) (m : torMsg.den) : EnS := sporTsE v m.2.1 (spHasE v 2 3 m.1 4 (sporLR v m.2.1 (spLacks v (m.1 == 0) 2 3 (spNewE v, (false, ([] : List Int))))))
abbrev ioorMsg : Io := ⟨[dI, .dat torMsg true false], [], [], [dO, dI], none⟩
def ForMsg (d : ioorMsg.In) : Tr ioorMsg.Res := .ret (.ret ((spDoneO (sporE d.1.1 d.1.2.1), (spDoneE (sporE d.1.1 d.1.2.1), ())), ()))
abbrev csorMsg : List (Nat × Hc) := [(54, ioHd ioeNew FeNew), (55, ioHd ioeLacks FeLacks), (57, ioHd ioeHas FeHas), (56, ioHd ioeI32 FeI32), (71, ioHd ioorLacks ForLacks), (72, ioHd ioorTopics ForTopics), (65, ioHd ioeDone FeDone)]
def hdorMsg : Hd := hdT csorMsg
abbrev loorMsg_8 : Lo := ⟨⟨[.any, .any, .any, .one (.ptr 3 0), .any, .any, .one (.ptr 6 0), .any, .any, .any, .any, .any, .any, .any, .any, .any, .any, .any, .any, .one (.hol (.sl 53 torTopic)), .one (.hol (.int IntKind.i64)), .one (.hol (.int IntKind.i64)), .any, .any, .any, .any, .one (.hol (.sl 57 torPart)), .one (.hol (.int IntKind.i64)), .one (.hol (.int IntKind.i64)), .any, .any, .any, .any, .any, .any, .any, .any, .any, .any, .any, .any, .any, .any, .any, .any, .any, .any, .any, .any, .any, .any, .any], [none, none, none, some [.hol (.int IntKind.i32), .hol (.sl 53 torTopic)], none, none, some [.ptr 12 0], none, none, none, none, none, some [.ptr 13 0, .hol (.int IntKind.i64), .hol (.int IntKind.i64), .hol .bool], some [.onl 5 (Ty.int IntKind.u8) 6658, .hol (.int IntKind.i64)]]⟩, [(.exit 2, ⟨[.any, .any, .any, .one (.ptr 3 0), .any, .any, .one (.ptr 6 0), .any, .any, .any, .any, .any, .any, .any, .any, .any, .any, .any, .any, .one (.hol (.sl 53 torTopic)), .one (.hol (.int IntKind.i64)), .one (.hol (.int IntKind.i64)), .any, .any, .any, .any, .any, .any, .any, .any, .any, .any, .any, .any, .any, .any, .any, .any, .any, .any, .any, .any, .any, .any, .any, .any, .any, .any, .any, .any, .any, .any], [none, none, none, some [.hol (.int IntKind.i32), .hol (.sl 53 torTopic)], none, none, some [.ptr 12 0], none, none, none, none, none, some [.ptr 13 0, .hol (.int IntKind.i64), .hol (.int IntKind.i64), .hol .bool], some [.onl 5 (Ty.int IntKind.u8) 6658, .hol (.int IntKind.i64)]]⟩)]⟩
-- ForMsg_8 : loorMsg_8.st.den → Tr (DenX loorMsg_8.xs) | ((h13, (h14, (h15, (h16, (h17, (h18, ())))))), ((h19, (h20, ())), ((), ((h21, (h22, (h23, ()))), ((h24, (h25, ())), ())))))
abbrev loorMsg_5 : Lo := ⟨⟨[.any, .any, .any, .one (.ptr 3 0), .any, .any, .one (.ptr 6 0), .any, .any, .any, .any, .any, .any, .any, .any, .any, .any, .any, .any, .one (.hol (.sl 53 torTopic)), .one (.hol (.int IntKind.i64)), .one (.hol (.int IntKind.i64)), .any, .any, .any, .any, .any, .any, .any, .any, .any, .any, .any, .any, .any, .any, .any, .any, .any, .any, .any, .any, .any, .any, .any, .any, .any, .any, .any, .any, .any, .any], [none, none, none, some [.hol (.int IntKind.i32), .hol (.sl 53 torTopic)], none, none, some [.ptr 12 0], none, none, none, none, none, some [.ptr 13 0, .hol (.int IntKind.i64), .hol (.int IntKind.i64), .hol .bool], some [.onl 5 (Ty.int IntKind.u8) 6658, .hol (.int IntKind.i64)]]⟩, [(.exit 0, ⟨[.any, .any, .any, .one (.ptr 3 0), .any, .any, .one (.ptr 6 0), .any, .any, .any, .any, .any, .any, .any, .any, .any, .any, .any, .any, .any, .any, .any, .any, .any, .any, .any, .any, .any, .any, .any, .any, .any, .any, .any, .any, .any, .any, .any, .any, .any, .any, .any, .any, .any, .any, .any, .any, .any, .any, .any, .any, .any], [none, none, none, some [.hol (.int IntKind.i32), .hol (.sl 53 torTopic)], none, none, some [.ptr 12 0], none, none, none, none, none, some [.ptr 13 0, .hol (.int IntKind.i64), .hol (.int IntKind.i64), .hol .bool], some [.onl 5 (Ty.int IntKind.u8) 6658, .hol (.int IntKind.i64)]]⟩)]⟩
-- ForMsg_5 : loorMsg_5.st.den → Tr (DenX loorMsg_5.xs) | ((h3, (h4, (h5, ()))), ((h6, (h7, ())), ((), ((h8, (h9, (h10, ()))), ((h11, (h12, ())), ())))))
abbrev outBor (th' : Int) (ts' : List torTopic.den) (v : Int) (s : EnS) : (Int × (List torTopic.den × Unit)) × (Unit × ((Int × (Int × (Bool × Unit))) × ((List Int × (Int × Unit)) × Unit))) := ((th', (ts', ())), ((), ((v, (s.1, (s.2.1, ()))), ((s.2.2, (130048, ())), ()))))
def ForMsg_8 (d : loorMsg_8.st.den) : Tr (DenX loorMsg_8.xs) :=
  .ite (decide (d.1.2.2.2.2.2.1 = 0) && (decide (d.1.2.2.2.2.1 = (d.1.2.2.2.1.length : Int)) && (decide (d.2.2.2.2.1.2.1 = 130048) && decide (d.2.2.2.2.1.1.length ≤ 130048)))) (.ret (.ret ((), ((d.1.1, (d.1.2.1, (d.1.2.2.1, ()))), outBor d.2.1.1 d.2.1.2.1 d.2.2.2.1.1 (sporLPs d.2.2.2.1.1 d.1.2.2.2.1 (d.2.2.2.1.2.1, (d.2.2.2.1.2.2.1, d.2.2.2.2.1.1))))))) .no
def ForMsg_5 (d : loorMsg_5.st.den) : Tr (DenX loorMsg_5.xs) :=
  .ite (decide (d.1.2.2.1 = 0) && (decide (d.1.2.1 = (d.1.1.length : Int)) && (decide (d.2.2.2.2.1.2.1 = 130048) && decide (d.2.2.2.2.1.1.length ≤ 130048)))) (.ret (.ret ((), ((), outBor d.2.1.1 d.2.1.2.1 d.2.2.2.1.1 (sporLR d.2.2.2.1.1 d.1.1 (d.2.2.2.1.2.1, (d.2.2.2.1.2.2.1, d.2.2.2.2.1.1))))))) .no
def lporMsg : Lp := lpT [(5, loHd loorMsg_5 ForMsg_5), (8, loHd loorMsg_8 ForMsg_8)]
def steporMsg_8 {R : Type} (h13 : List torTopic.den) (h14 : Int) (h15 : Int) (h16 : List torPart.den) (h17 : Int) (h18 : Int) (h19 : Int) (h20 : List torTopic.den) (h21 : Int) (h22 : Int) (h23 : Bool) (h24 : List Int) (h25 : Int) (next : List torTopic.den → Int → Int → List torPart.den → Int → Int → Int → List torTopic.den → Int → Int → Bool → List Int → Int → Option R) (out : DenX loorMsg_8.xs → Option R) : Option R := bif decide (h18 < h17) then bif decide (0 ≤ h18) && decide (h18 < (↑h16.length : Int)) then bif decide (h25 = 130048) && decide (h24.length ≤ 130048) then next (h13) (h14) (h15) (h16) (h17) (IntKind.i64.wrap (h18 + 1)) (h19) (h20) (h21) ((sporLP h21 (h16.getD h18.toNat (0, 0, [], 0, 0, 0, ())) (h22, h23, h24)).fst) ((sporLP h21 (h16.getD h18.toNat (0, 0, [], 0, 0, 0, ())) (h22, h23, h24)).snd.fst) ((sporLP h21 (h16.getD h18.toNat (0, 0, [], 0, 0, 0, ())) (h22, h23, h24)).snd.snd) (130048) else none else none else out (.ret ((), ((h13, (h14, (h15, ()))), ((h19, (h20, ())), ((), ((h21, (h22, (h23, ()))), ((h24, (h25, ())), ())))))))
def itorMsg_8 (n : Nat) (h13 : List torTopic.den) (h14 : Int) (h15 : Int) (h16 : List torPart.den) (h17 : Int) (h18 : Int) (h19 : Int) (h20 : List torTopic.den) (h21 : Int) (h22 : Int) (h23 : Bool) (h24 : List Int) (h25 : Int) : Option (DenX loorMsg_8.xs) := lpN tt hdorMsg dr lporMsg 0 Go.Proofs.Tryz.f21 (subL Go.Proofs.Tryz.f21 (topL Go.Proofs.Tryz.f21 0) 0) n (loorMsg_8.st.mk' ((h13, (h14, (h15, (h16, (h17, (h18, ())))))), ((h19, (h20, ())), ((), ((h21, (h22, (h23, ()))), ((h24, (h25, ())), ())))))) (decX loorMsg_8.xs)
theorem slorMsg_8 (n : Nat) (h13 : List torTopic.den) (h14 : Int) (h15 : Int) (h16 : List torPart.den) (h17 : Int) (h18 : Int) (h19 : Int) (h20 : List torTopic.den) (h21 : Int) (h22 : Int) (h23 : Bool) (h24 : List Int) (h25 : Int) : itorMsg_8 (n + 1) h13 h14 h15 h16 h17 h18 h19 h20 h21 h22 h23 h24 h25 = steporMsg_8 h13 h14 h15 h16 h17 h18 h19 h20 h21 h22 h23 h24 h25 (itorMsg_8 n) some := by kernel_rfl
def steporMsg_5 {R : Type} (h3 : List torTopic.den) (h4 : Int) (h5 : Int) (h6 : Int) (h7 : List torTopic.den) (h8 : Int) (h9 : Int) (h10 : Bool) (h11 : List Int) (h12 : Int) (next : List torTopic.den → Int → Int → Int → List torTopic.den → Int → Int → Bool → List Int → Int → Option R) (out : DenX loorMsg_5.xs → Option R) : Option R := bif decide (h5 < h4) then bif decide (0 ≤ h5) && decide (h5 < (↑h3.length : Int)) then (ForMsg_8 ((h3, (h4, (h5, ((h3.getD h5.toNat ([], [], ())).snd.fst, ((↑(List.length (h3.getD h5.toNat ([], [], ())).snd.fst) : Int), (0, ())))))), ((h6, (h7, ())), ((), ((h8, (h9, (h10, ()))), ((h11, (h12, ())), ())))))).run fun y => match y with | .ret ((), ((x49, x50, x51, ()), (x52, x53, ()), (), (x54, x55, x56, ()), (x57, x58, ()), ())) => (next (x49) (x50) (IntKind.i64.wrap (x51 + 1)) (x52) (x53) (x54) (x55) (x56) (x57) (x58)) else none else out (.ret ((), ((), ((h6, (h7, ())), ((), ((h8, (h9, (h10, ()))), ((h11, (h12, ())), ())))))))
def itorMsg_5 (n : Nat) (h3 : List torTopic.den) (h4 : Int) (h5 : Int) (h6 : Int) (h7 : List torTopic.den) (h8 : Int) (h9 : Int) (h10 : Bool) (h11 : List Int) (h12 : Int) : Option (DenX loorMsg_5.xs) := lpN tt hdorMsg dr lporMsg 0 Go.Proofs.Tryz.f21 (topL Go.Proofs.Tryz.f21 0) n (loorMsg_5.st.mk' ((h3, (h4, (h5, ()))), ((h6, (h7, ())), ((), ((h8, (h9, (h10, ()))), ((h11, (h12, ())), ())))))) (decX loorMsg_5.xs)
theorem slorMsg_5 (n : Nat) (h3 : List torTopic.den) (h4 : Int) (h5 : Int) (h6 : Int) (h7 : List torTopic.den) (h8 : Int) (h9 : Int) (h10 : Bool) (h11 : List Int) (h12 : Int) : itorMsg_5 (n + 1) h3 h4 h5 h6 h7 h8 h9 h10 h11 h12 = steporMsg_5 h3 h4 h5 h6 h7 h8 h9 h10 h11 h12 (itorMsg_5 n) some := by kernel_rfl
theorem sporLP_le {s : EnS} (v : Int) (p : torPart.den) (h : s.2.2.length ≤ 130048) : (sporLP v p s).2.2.length ≤ 130048 := spLacks_le _ _ _ _ (spLacks_le _ _ _ _ (spLacks_le _ _ _ _ h))
theorem sporLPs_le {s : EnS} (v : Int) (ps : List torPart.den) (h : s.2.2.length ≤ 130048) : (sporLPs v ps s).2.2.length ≤ 130048 := foldl_le (fun x s => sporLP_le v x) ps s h
theorem sporLR_le {s : EnS} (v : Int) (ts : List torTopic.den) (h : s.2.2.length ≤ 130048) : (sporLR v ts s).2.2.length ≤ 130048 := foldl_le (one := fun (t : torTopic.den) (s : EnS) => sporLPs v t.2.1 s) (fun x s h => sporLPs_le v x.2.1 h) ts s h
theorem looporMsg_8 (us : List torTopic.den) (n i : Int) (th' : Int) (ts' : List torTopic.den) (v : Int) {ps : List torPart.den} (hl : ps.length ≤ maxLen) : ∀ (k j : Nat) (s : EnS), ps.length < j + k → j ≤ ps.length → s.2.2.length ≤ 130048 →
    itorMsg_8 k us n i ps (ps.length : Int) j th' ts' v s.1 s.2.1 s.2.2 130048 = some (.ret ((), ((us, (n, (i, ()))), outBor th' ts' v ((ps.drop j).foldl (fun s p => sporLP v p s) s)))) := by
  intro k
  have hg : ∀ s : EnS, s.2.2.length ≤ 130048 → (decide ((130048 : Int) = 130048) && decide (s.2.2.length ≤ 130048)) = true := fun s h => by simpa using h
  induction k with
  | zero => intro j s h; omega
  | succ k ih =>
    intro j s h1 h2 q0
    rw [slorMsg_8]
    unfold steporMsg_8
    by_cases hi : j < ps.length
    · refine (bif_true (decide_eq_true (show (j : Int) < (ps.length : Int) by omega)) _ _).trans ?_
      refine (bif_true (by simpa using hi) _ _).trans ?_
      simp only [Int.toNat_natCast, getD_lt hi, wrap_succ hi hl]
      refine (bif_true (hg _ q0) _ _).trans ?_
      rw [List.drop_eq_getElem_cons hi]
      exact ih (j + 1) (sporLP v ps[j] s) (by omega) (by omega) (sporLP_le _ _ q0)
    · refine (bif_false (by simp; omega) _ _).trans ?_
      rw [List.drop_of_length_le (by omega)]
      rfl
theorem looporMsg_5 {us : List torTopic.den} (th' : Int) (ts' : List torTopic.den) (v : Int) (hl : us.length ≤ maxLen) : ∀ (k j : Nat) (s : EnS), us.length < j + k → j ≤ us.length → s.2.2.length ≤ 130048 →
    itorMsg_5 k us (us.length : Int) j th' ts' v s.1 s.2.1 s.2.2 130048 = some (.ret ((), ((), outBor th' ts' v ((us.drop j).foldl (fun s t => sporLPs v t.2.1 s) s)))) := by
  intro k
  induction k with
  | zero => intro j s h; omega
  | succ k ih =>
    intro j s h1 h2 h3
    rw [slorMsg_5]
    unfold steporMsg_5
    by_cases hi : j < us.length
    · refine (bif_true (decide_eq_true (show (j : Int) < (us.length : Int) by omega)) _ _).trans ?_
      refine (bif_true (by simpa using hi) _ _).trans ?_
      simp only [Int.toNat_natCast, getD_lt hi]
      have c1 : (decide ((0 : Int) = 0) && (decide ((us[j].2.1.length : Int) = (us[j].2.1.length : Int)) && (decide ((130048 : Int) = 130048) && decide (s.2.2.length ≤ 130048)))) = true := by simpa using h3
      have e1 : ForMsg_8 ((us, ((us.length : Int), ((j : Int), (us[j].2.1, ((us[j].2.1.length : Int), (0, ())))))), ((th', (ts', ())), ((), ((v, (s.1, (s.2.1, ()))), ((s.2.2, (130048, ())), ()))))) =
          .ite true (.ret (.ret ((), ((us, ((us.length : Int), ((j : Int), ()))), outBor th' ts' v (sporLPs v us[j].2.1 s))))) .no := congrArg (fun c => Tr.ite c _ _) c1
      rw [e1]
      show itorMsg_5 k us (us.length : Int) (IntKind.i64.wrap ((j : Int) + 1)) th' ts' v (sporLPs v us[j].2.1 s).1 (sporLPs v us[j].2.1 s).2.1 (sporLPs v us[j].2.1 s).2.2 130048 = _
      rw [wrap_succ hi hl, List.drop_eq_getElem_cons hi]
      exact ih (j + 1) (sporLPs v us[j].2.1 s) (by omega) (by omega) (sporLPs_le _ _ h3)
    · refine (bif_false (by simp; omega) _ _).trans ?_
      rw [List.drop_of_length_le (by omega)]
      rfl
def bodyorMsg (a0 : Int) (a1 : Int) (a2 : List torTopic.den) : Option ioorMsg.Res := (ForMsg_5 ((a2, ((↑a2.length : Int), (0, ()))), ((a1, (a2, ())), ((), ((a0, ((spLacks a0 (a1 == 0) 2 3 (spNewE a0, false, [])).fst, ((spLacks a0 (a1 == 0) 2 3 (spNewE a0, false, [])).snd.fst, ()))), (((spLacks a0 (a1 == 0) 2 3 (spNewE a0, false, [])).snd.snd, (130048, ())), ())))))).run fun y => match y with | .ret ((), ((), (x76, x77, ()), (), (x78, x79, x80, ()), (x81, x82, ()), ())) => (bif decide (x82 = 130048) && decide (x81.length ≤ 130048) then bif decide (2 ≤ x78) && decide (x78 ≤ 3) then bif decide (130048 = 130048) && decide (x81.length ≤ 130048) then bif decide (130048 = 130048) && decide ((spPutE x76 4 (x79, x80, x81)).snd.snd.length ≤ 130048) then bif decide (130048 = 130048) && decide ((sporTsE x78 x77 (spPutE x76 4 (x79, x80, x81))).snd.snd.length ≤ 130048) then some (Out.ret ((spDoneO (sporTsE x78 x77 (spPutE x76 4 (x79, x80, x81))), spDoneE (sporTsE x78 x77 (spPutE x76 4 (x79, x80, x81))), ()), ())) else none else none else none else bif decide (130048 = 130048) && decide (x81.length ≤ 130048) then bif decide (130048 = 130048) && decide ((sporTsE x78 x77 (x79, x80, x81)).snd.snd.length ≤ 130048) then some (Out.ret ((spDoneO (sporTsE x78 x77 (x79, x80, x81)), spDoneE (sporTsE x78 x77 (x79, x80, x81)), ()), ())) else none else none else none)
theorem runorMsg (a0 : Int) (a1 : Int) (a2 : List torTopic.den) : Io.run tt hdorMsg dr lporMsg ioorMsg Go.Proofs.Tryz.f21 ((a0, (a1, a2, ()), ()), ()) = bodyorMsg a0 a1 a2 := by kernel_rfl
theorem okorMsg : HcOk prog 21 (ioHd ioorMsg ForMsg) := by
  refine fn_sound (n := 400) hm (cs := csorMsg) (.cons okeNew (.cons okeLacks (.cons okeHas (.cons okeI32 (.cons okorLacks (.cons okorTopics (.cons okeDone .nil))))))) (lp := lporMsg) (fn := Go.Proofs.Tryz.f21) (by kernel_rfl) (by kernel_rfl) (by kernel_rfl) ioorMsg (.step (h0 := loHd loorMsg_5 ForMsg_5) (by kernel_rfl) (loop_sound (n := 400) hm (cs := csorMsg) (.cons okeNew (.cons okeLacks (.cons okeHas (.cons okeI32 (.cons okorLacks (.cons okorTopics (.cons okeDone .nil))))))) (lp := lporMsg) (fn := Go.Proofs.Tryz.f21) (.step (h0 := loHd loorMsg_8 ForMsg_8) (by kernel_rfl) (loop_sound (n := 400) hm (cs := csorMsg) (.cons okeNew (.cons okeLacks (.cons okeHas (.cons okeI32 (.cons okorLacks (.cons okorTopics (.cons okeDone .nil))))))) (lp := lporMsg) (fn := Go.Proofs.Tryz.f21) (.done (by kernel_rfl)) loorMsg_8 ForMsg_8 ?_) (.done (by kernel_rfl))) loorMsg_5 ForMsg_5 ?_) (.done (by kernel_rfl))) ForMsg ?_
  · rintro ⟨⟨(us : List torTopic.den), (n : Int), (i : Int), (ps : List torPart.den), (pn : Int), (pj : Int), ⟨⟩⟩, ⟨⟨(th' : Int), (ts' : List torTopic.den), ⟨⟩⟩, ⟨⟩, ⟨(v : Int), (e : Int), (f : Bool), ⟨⟩⟩, ⟨(b : List Int), (m : Int), ⟨⟩⟩, ⟨⟩⟩⟩ y hw hy
    obtain ⟨hg, hy⟩ := Tr.guard hy
    simp only [Bool.and_eq_true, decide_eq_true_eq] at hg
    obtain ⟨rfl, rfl, rfl, h4⟩ := hg
    have h4 : b.length ≤ 130048 := h4
    have hl : ps.length ≤ maxLen := hw.1.2.2.2.1.1
    refine ⟨ps.length + 1, (looporMsg_8 us n i th' ts' v hl (ps.length + 1) 0 (e, (f, b)) (by omega) (by omega) h4).trans ?_⟩
    rw [← hy]; rfl
  · rintro ⟨⟨(us : List torTopic.den), (n : Int), (i : Int), ⟨⟩⟩, ⟨⟨(th' : Int), (ts' : List torTopic.den), ⟨⟩⟩, ⟨⟩, ⟨(v : Int), (e : Int), (f : Bool), ⟨⟩⟩, ⟨(b : List Int), (m : Int), ⟨⟩⟩, ⟨⟩⟩⟩ y hw hy
    obtain ⟨hg, hy⟩ := Tr.guard hy
    simp only [Bool.and_eq_true, decide_eq_true_eq] at hg
    obtain ⟨rfl, rfl, rfl, h4⟩ := hg
    have h4 : b.length ≤ 130048 := h4
    have hl : us.length ≤ maxLen := hw.1.1.1
    refine ⟨us.length + 1, (looporMsg_5 th' ts' v hl (us.length + 1) 0 (e, (f, b)) (by omega) (by omega) h4).trans ?_⟩
    rw [← hy]; rfl
  · rintro ⟨⟨(v : Int), ⟨(th : Int), (ts : List torTopic.den), ⟨⟩⟩, ⟨⟩⟩, ⟨⟩⟩ out hw ho
    cases ho
    refine (runorMsg v th ts).trans ?_
    unfold bodyorMsg
    have hg : ∀ s : EnS, s.2.2.length ≤ 130048 → (decide ((130048 : Int) = 130048) && decide (s.2.2.length ≤ 130048)) = true := fun s h => by simpa using h
    have q0 : (spNewE v, (false, ([] : List Int))).2.2.length ≤ 130048 := by simp
    have q1 := spLacks_le (s := (spNewE v, (false, ([] : List Int)))) v (th == 0) 2 3 q0
    have c1 : (decide ((0 : Int) = 0) && (decide ((ts.length : Int) = (ts.length : Int)) && (decide ((130048 : Int) = 130048) && decide ((spLacks v (th == 0) 2 3 (spNewE v, (false, ([] : List Int)))).2.2.length ≤ 130048)))) = true := by simpa using q1
    have e1 : ForMsg_5 ((ts, ((ts.length : Int), (0, ()))), ((th, (ts, ())), ((), ((v, ((spLacks v (th == 0) 2 3 (spNewE v, (false, ([] : List Int)))).1, ((spLacks v (th == 0) 2 3 (spNewE v, (false, ([] : List Int)))).2.1, ()))), (((spLacks v (th == 0) 2 3 (spNewE v, (false, ([] : List Int)))).2.2, (130048, ())), ()))))) =
        .ite true (.ret (.ret ((), ((), outBor th ts v (sporLR v ts (spLacks v (th == 0) 2 3 (spNewE v, (false, ([] : List Int))))))))) .no := congrArg (fun c => Tr.ite c _ _) c1
    rw [e1]
    have r0 := sporLR_le v ts q1
    refine (bif_true (hg _ r0) _ _).trans ?_
    by_cases h0_0 : 2 ≤ v ∧ v ≤ 3
    · refine (bif_true (by simpa using h0_0) _ _).trans ?_
      refine (bif_true (hg _ r0) _ _).trans ?_
      have l0_0 := spPutE_le th 4 r0
      refine (bif_true (hg _ l0_0) _ _).trans ?_
      have l1_1 := spItems_le (fun x s => sporTE_le v x) ts l0_0
      refine (bif_true (hg _ l1_1) _ _).trans ?_
      simp only [sporE, spHasE_in h0_0]
    · refine (bif_false (Bool.eq_false_iff.2 fun h' => h0_0 (by simpa using h')) _ _).trans ?_
      refine (bif_true (hg _ r0) _ _).trans ?_
      have l1_1 := spItems_le (fun x s => sporTE_le v x) ts r0
      refine (bif_true (hg _ l1_1) _ _).trans ?_
      simp only [sporE, spHasE_out h0_0]
end
end Go.Proofs.YtjpeefegeobgfaaGreat.Sym
namespace Go.Proofs.YtjpeefegeobgfaaGreat.Sym
open Go
set_option linter.unusedSimpArgs false
set_option linter.unusedVariables false
noncomputable section
@[irreducible] noncomputable def sporPD (v : Int) (b : List Int) (s : DeS) : torPart.den × DeS :=
  (((spDn .i32 4 b s).1, ((spDn .i16 2 b (spDn .i32 4 b s).2).1, ((spDHasNs v 0 0 b (spDn .i16 2 b (spDn .i32 4 b s).2).2).1, ((spDHasN .i64 8 v 1 3 b (spDHasNs v 0 0 b (spDn .i16 2 b (spDn .i32 4 b s).2).2).2).1, ((spDHasN .i64 8 v 1 3 b (spDHasN .i64 8 v 1 3 b (spDHasNs v 0 0 b (spDn .i16 2 b (spDn .i32 4 b s).2).2).2).2).1, ((spDHasN .i32 4 v 3 3 b (spDHasN .i64 8 v 1 3 b (spDHasN .i64 8 v 1 3 b (spDHasNs v 0 0 b (spDn .i16 2 b (spDn .i32 4 b s).2).2).2).2).2).1, ())))))), (spDHasN .i32 4 v 3 3 b (spDHasN .i64 8 v 1 3 b (spDHasN .i64 8 v 1 3 b (spDHasNs v 0 0 b (spDn .i16 2 b (spDn .i32 4 b s).2).2).2).2).2).2)
theorem sporPD_ok {v : Int} {b : List Int} {s : DeS} (h : spDok b s.2 = true) : spDok b (sporPD v b s).2.2 = true := by
  unfold sporPD
  exact spDHasN_ok (spDHasN_ok (spDHasN_ok (spDHasNs_ok (spDn_ok _ _ (spDn_ok _ _ (h))))))
abbrev iodorPart : Io := ⟨[.ptr 0 0], oDec1, [], [.dat torPart true false], none⟩
def FdorPart (d : iodorPart.In) : Tr iodorPart.Res := .ite (spDok d.2.2.2.1.1 d.2.2.2.1.2.1) (.ret (.ret (((sporPD d.2.2.1.2.1 d.2.2.2.1.1 (decSt d.2.2)).1, ()), decOut1 d.2.2.1.2.1 d.2.2.2.1.1 (sporPD d.2.2.1.2.1 d.2.2.2.1.1 (decSt d.2.2)).2))) .no
abbrev csdorPart : List (Nat × Hc) := [(87, ioHd iodI16 FdI16), (81, ioHd iodI32 FdI32), (89, ioHd iodI64 FdI64), (88, ioHd iodNs FdNs), (80, ioHd iodHas FdHas)]
def hddorPart : Hd := hdT csdorPart
def lpdorPart : Lp := lpT []
def bodydorPart (a0 : Int) (a1 : Int) (a2 : List Int) (a3 : Int) : Option iodorPart.Res := bif spDok a2 a3 then bif spDok a2 (spDn IntKind.i32 4 a2 (a1, a3)).snd.snd then bif spDHas a0 0 0 (spDn IntKind.i16 2 a2 (spDn IntKind.i32 4 a2 (a1, a3)).snd).snd.fst then bif spDok a2 (spDn IntKind.i16 2 a2 (spDn IntKind.i32 4 a2 (a1, a3)).snd).snd.snd then bif spDHas a0 1 3 (spNsD a2 (spDn IntKind.i16 2 a2 (spDn IntKind.i32 4 a2 (a1, a3)).snd).snd).snd.fst then bif spDok a2 (spNsD a2 (spDn IntKind.i16 2 a2 (spDn IntKind.i32 4 a2 (a1, a3)).snd).snd).snd.snd then bif spDok a2 (spDn IntKind.i64 8 a2 (spNsD a2 (spDn IntKind.i16 2 a2 (spDn IntKind.i32 4 a2 (a1, a3)).snd).snd).snd).snd.snd then bif spDHas a0 3 3 (spDn IntKind.i64 8 a2 (spDn IntKind.i64 8 a2 (spNsD a2 (spDn IntKind.i16 2 a2 (spDn IntKind.i32 4 a2 (a1, a3)).snd).snd).snd).snd).snd.fst then bif spDok a2 (spDn IntKind.i64 8 a2 (spDn IntKind.i64 8 a2 (spNsD a2 (spDn IntKind.i16 2 a2 (spDn IntKind.i32 4 a2 (a1, a3)).snd).snd).snd).snd).snd.snd then some (Out.ret ((((spDn IntKind.i32 4 a2 (a1, a3)).fst, (spDn IntKind.i16 2 a2 (spDn IntKind.i32 4 a2 (a1, a3)).snd).fst, (spNsD a2 (spDn IntKind.i16 2 a2 (spDn IntKind.i32 4 a2 (a1, a3)).snd).snd).fst, (spDn IntKind.i64 8 a2 (spNsD a2 (spDn IntKind.i16 2 a2 (spDn IntKind.i32 4 a2 (a1, a3)).snd).snd).snd).fst, (spDn IntKind.i64 8 a2 (spDn IntKind.i64 8 a2 (spNsD a2 (spDn IntKind.i16 2 a2 (spDn IntKind.i32 4 a2 (a1, a3)).snd).snd).snd).snd).fst, (spDn IntKind.i32 4 a2 (spDn IntKind.i64 8 a2 (spDn IntKind.i64 8 a2 (spNsD a2 (spDn IntKind.i16 2 a2 (spDn IntKind.i32 4 a2 (a1, a3)).snd).snd).snd).snd).snd).fst, ()), ()), ((), ()), ((), a0, (spDn IntKind.i32 4 a2 (spDn IntKind.i64 8 a2 (spDn IntKind.i64 8 a2 (spNsD a2 (spDn IntKind.i16 2 a2 (spDn IntKind.i32 4 a2 (a1, a3)).snd).snd).snd).snd).snd).snd.fst, ()), (a2, (spDn IntKind.i32 4 a2 (spDn IntKind.i64 8 a2 (spDn IntKind.i64 8 a2 (spNsD a2 (spDn IntKind.i16 2 a2 (spDn IntKind.i32 4 a2 (a1, a3)).snd).snd).snd).snd).snd).snd.snd, ()), ())) else none else some (Out.ret ((((spDn IntKind.i32 4 a2 (a1, a3)).fst, (spDn IntKind.i16 2 a2 (spDn IntKind.i32 4 a2 (a1, a3)).snd).fst, (spNsD a2 (spDn IntKind.i16 2 a2 (spDn IntKind.i32 4 a2 (a1, a3)).snd).snd).fst, (spDn IntKind.i64 8 a2 (spNsD a2 (spDn IntKind.i16 2 a2 (spDn IntKind.i32 4 a2 (a1, a3)).snd).snd).snd).fst, (spDn IntKind.i64 8 a2 (spDn IntKind.i64 8 a2 (spNsD a2 (spDn IntKind.i16 2 a2 (spDn IntKind.i32 4 a2 (a1, a3)).snd).snd).snd).snd).fst, 0, ()), ()), ((), ()), ((), a0, (spDn IntKind.i64 8 a2 (spDn IntKind.i64 8 a2 (spNsD a2 (spDn IntKind.i16 2 a2 (spDn IntKind.i32 4 a2 (a1, a3)).snd).snd).snd).snd).snd.fst, ()), (a2, (spDn IntKind.i64 8 a2 (spDn IntKind.i64 8 a2 (spNsD a2 (spDn IntKind.i16 2 a2 (spDn IntKind.i32 4 a2 (a1, a3)).snd).snd).snd).snd).snd.snd, ()), ())) else none else none else bif spDHas a0 3 3 (spNsD a2 (spDn IntKind.i16 2 a2 (spDn IntKind.i32 4 a2 (a1, a3)).snd).snd).snd.fst then bif spDok a2 (spNsD a2 (spDn IntKind.i16 2 a2 (spDn IntKind.i32 4 a2 (a1, a3)).snd).snd).snd.snd then some (Out.ret ((((spDn IntKind.i32 4 a2 (a1, a3)).fst, (spDn IntKind.i16 2 a2 (spDn IntKind.i32 4 a2 (a1, a3)).snd).fst, (spNsD a2 (spDn IntKind.i16 2 a2 (spDn IntKind.i32 4 a2 (a1, a3)).snd).snd).fst, 0, 0, (spDn IntKind.i32 4 a2 (spNsD a2 (spDn IntKind.i16 2 a2 (spDn IntKind.i32 4 a2 (a1, a3)).snd).snd).snd).fst, ()), ()), ((), ()), ((), a0, (spDn IntKind.i32 4 a2 (spNsD a2 (spDn IntKind.i16 2 a2 (spDn IntKind.i32 4 a2 (a1, a3)).snd).snd).snd).snd.fst, ()), (a2, (spDn IntKind.i32 4 a2 (spNsD a2 (spDn IntKind.i16 2 a2 (spDn IntKind.i32 4 a2 (a1, a3)).snd).snd).snd).snd.snd, ()), ())) else none else some (Out.ret ((((spDn IntKind.i32 4 a2 (a1, a3)).fst, (spDn IntKind.i16 2 a2 (spDn IntKind.i32 4 a2 (a1, a3)).snd).fst, (spNsD a2 (spDn IntKind.i16 2 a2 (spDn IntKind.i32 4 a2 (a1, a3)).snd).snd).fst, 0, 0, 0, ()), ()), ((), ()), ((), a0, (spNsD a2 (spDn IntKind.i16 2 a2 (spDn IntKind.i32 4 a2 (a1, a3)).snd).snd).snd.fst, ()), (a2, (spNsD a2 (spDn IntKind.i16 2 a2 (spDn IntKind.i32 4 a2 (a1, a3)).snd).snd).snd.snd, ()), ())) else none else bif spDHas a0 1 3 (spDn IntKind.i16 2 a2 (spDn IntKind.i32 4 a2 (a1, a3)).snd).snd.fst then bif spDok a2 (spDn IntKind.i16 2 a2 (spDn IntKind.i32 4 a2 (a1, a3)).snd).snd.snd then bif spDok a2 (spDn IntKind.i64 8 a2 (spDn IntKind.i16 2 a2 (spDn IntKind.i32 4 a2 (a1, a3)).snd).snd).snd.snd then bif spDHas a0 3 3 (spDn IntKind.i64 8 a2 (spDn IntKind.i64 8 a2 (spDn IntKind.i16 2 a2 (spDn IntKind.i32 4 a2 (a1, a3)).snd).snd).snd).snd.fst then bif spDok a2 (spDn IntKind.i64 8 a2 (spDn IntKind.i64 8 a2 (spDn IntKind.i16 2 a2 (spDn IntKind.i32 4 a2 (a1, a3)).snd).snd).snd).snd.snd then some (Out.ret ((((spDn IntKind.i32 4 a2 (a1, a3)).fst, (spDn IntKind.i16 2 a2 (spDn IntKind.i32 4 a2 (a1, a3)).snd).fst, [], (spDn IntKind.i64 8 a2 (spDn IntKind.i16 2 a2 (spDn IntKind.i32 4 a2 (a1, a3)).snd).snd).fst, (spDn IntKind.i64 8 a2 (spDn IntKind.i64 8 a2 (spDn IntKind.i16 2 a2 (spDn IntKind.i32 4 a2 (a1, a3)).snd).snd).snd).fst, (spDn IntKind.i32 4 a2 (spDn IntKind.i64 8 a2 (spDn IntKind.i64 8 a2 (spDn IntKind.i16 2 a2 (spDn IntKind.i32 4 a2 (a1, a3)).snd).snd).snd).snd).fst, ()), ()), ((), ()), ((), a0, (spDn IntKind.i32 4 a2 (spDn IntKind.i64 8 a2 (spDn IntKind.i64 8 a2 (spDn IntKind.i16 2 a2 (spDn IntKind.i32 4 a2 (a1, a3)).snd).snd).snd).snd).snd.fst, ()), (a2, (spDn IntKind.i32 4 a2 (spDn IntKind.i64 8 a2 (spDn IntKind.i64 8 a2 (spDn IntKind.i16 2 a2 (spDn IntKind.i32 4 a2 (a1, a3)).snd).snd).snd).snd).snd.snd, ()), ())) else none else some (Out.ret ((((spDn IntKind.i32 4 a2 (a1, a3)).fst, (spDn IntKind.i16 2 a2 (spDn IntKind.i32 4 a2 (a1, a3)).snd).fst, [], (spDn IntKind.i64 8 a2 (spDn IntKind.i16 2 a2 (spDn IntKind.i32 4 a2 (a1, a3)).snd).snd).fst, (spDn IntKind.i64 8 a2 (spDn IntKind.i64 8 a2 (spDn IntKind.i16 2 a2 (spDn IntKind.i32 4 a2 (a1, a3)).snd).snd).snd).fst, 0, ()), ()), ((), ()), ((), a0, (spDn IntKind.i64 8 a2 (spDn IntKind.i64 8 a2 (spDn IntKind.i16 2 a2 (spDn IntKind.i32 4 a2 (a1, a3)).snd).snd).snd).snd.fst, ()), (a2, (spDn IntKind.i64 8 a2 (spDn IntKind.i64 8 a2 (spDn IntKind.i16 2 a2 (spDn IntKind.i32 4 a2 (a1, a3)).snd).snd).snd).snd.snd, ()), ())) else none else none else bif spDHas a0 3 3 (spDn IntKind.i16 2 a2 (spDn IntKind.i32 4 a2 (a1, a3)).snd).snd.fst then bif spDok a2 (spDn IntKind.i16 2 a2 (spDn IntKind.i32 4 a2 (a1, a3)).snd).snd.snd then some (Out.ret ((((spDn IntKind.i32 4 a2 (a1, a3)).fst, (spDn IntKind.i16 2 a2 (spDn IntKind.i32 4 a2 (a1, a3)).snd).fst, [], 0, 0, (spDn IntKind.i32 4 a2 (spDn IntKind.i16 2 a2 (spDn IntKind.i32 4 a2 (a1, a3)).snd).snd).fst, ()), ()), ((), ()), ((), a0, (spDn IntKind.i32 4 a2 (spDn IntKind.i16 2 a2 (spDn IntKind.i32 4 a2 (a1, a3)).snd).snd).snd.fst, ()), (a2, (spDn IntKind.i32 4 a2 (spDn IntKind.i16 2 a2 (spDn IntKind.i32 4 a2 (a1, a3)).snd).snd).snd.snd, ()), ())) else none else some (Out.ret ((((spDn IntKind.i32 4 a2 (a1, a3)).fst, (spDn IntKind.i16 2 a2 (spDn IntKind.i32 4 a2 (a1, a3)).snd).fst, [], 0, 0, 0, ()), ()), ((), ()), ((), a0, (spDn IntKind.i16 2 a2 (spDn IntKind.i32 4 a2 (a1, a3)).snd).snd.fst, ()), (a2, (spDn IntKind.i16 2 a2 (spDn IntKind.i32 4 a2 (a1, a3)).snd).snd.snd, ()), ())) else none else none
theorem rundorPart (a0 : Int) (a1 : Int) (a2 : List Int) (a3 : Int) : Io.run tt hddorPart dr lpdorPart iodorPart Go.Proofs.Tryz.f86 (((), ()), ((), ()), ((), a0, a1, ()), (a2, a3, ()), ()) = bodydorPart a0 a1 a2 a3 := by kernel_rfl
theorem okdorPart : HcOk prog 86 (ioHd iodorPart FdorPart) := by
  refine fn_sound (n := 400) hm (cs := csdorPart) (.cons okdI16 (.cons okdI32 (.cons okdI64 (.cons okdNs (.cons okdHas .nil))))) (lp := lpdorPart) (fn := Go.Proofs.Tryz.f86) (by kernel_rfl) (by kernel_rfl) (by kernel_rfl) iodorPart (.done (by kernel_rfl)) FdorPart ?_
  rintro ⟨⟨⟨⟩, ⟨⟩⟩, ⟨⟨⟩, ⟨⟩⟩, ⟨⟨⟩, (v : Int), (e : Int), ⟨⟩⟩, ⟨(b : List Int), (p : Int), ⟨⟩⟩, ⟨⟩⟩ out hw ho
  obtain ⟨hg, ho⟩ := Tr.guard ho
  have hg : spDok b p = true := hg
  cases ho
  refine (rundorPart v e b p).trans ?_
  unfold bodydorPart
  show _ = some (Out.ret (((sporPD v b (e, p)).1, ()), decOut1 v b (sporPD v b (e, p)).2))
  unfold sporPD
  have hg : spDok b ((e, p) : DeS).2 = true := hg
  refine (bif_true hg _ _).trans ?_
  have g0 : spDok b (spDn .i32 4 b ((e, p) : DeS)).2.2 = true := spDn_ok .i32 4 (s := ((e, p) : DeS)) hg
  refine (bif_true g0 _ _).trans ?_
  have g1 : spDok b (spDn .i16 2 b (spDn .i32 4 b ((e, p) : DeS)).2).2.2 = true := spDn_ok .i16 2 (s := (spDn .i32 4 b ((e, p) : DeS)).2) g0
  show (bif spDHas v 0 0 (spDn .i16 2 b (spDn .i32 4 b ((e, p) : DeS)).2).2.1 then _ else _) = _
  cases h2 : spDHas v 0 0 (spDn .i16 2 b (spDn .i32 4 b ((e, p) : DeS)).2).2.1
  · have e2 : spDHasNs v 0 0 b (spDn .i16 2 b (spDn .i32 4 b ((e, p) : DeS)).2).2 = ([], (spDn .i16 2 b (spDn .i32 4 b ((e, p) : DeS)).2).2) := by unfold spDHasNs; rw [if_neg (by rw [h2]; decide)]
    rw [e2]
    show (bif spDHas v 1 3 (spDn .i16 2 b (spDn .i32 4 b ((e, p) : DeS)).2).2.1 then _ else _) = _
    cases hf3 : spDHas v 1 3 (spDn .i16 2 b (spDn .i32 4 b ((e, p) : DeS)).2).2.1
    · have ef3 : spDHasN .i64 8 v 1 3 b (spDn .i16 2 b (spDn .i32 4 b ((e, p) : DeS)).2).2 = (0, (spDn .i16 2 b (spDn .i32 4 b ((e, p) : DeS)).2).2) := by unfold spDHasN; rw [if_neg (by rw [hf3]; decide)]
      rw [ef3]
      have eff4 : spDHasN .i64 8 v 1 3 b (spDn .i16 2 b (spDn .i32 4 b ((e, p) : DeS)).2).2 = (0, (spDn .i16 2 b (spDn .i32 4 b ((e, p) : DeS)).2).2) := by unfold spDHasN; rw [if_neg (by rw [hf3]; decide)]
      rw [eff4]
      show (bif spDHas v 3 3 (spDn .i16 2 b (spDn .i32 4 b ((e, p) : DeS)).2).2.1 then _ else _) = _
      cases hff5 : spDHas v 3 3 (spDn .i16 2 b (spDn .i32 4 b ((e, p) : DeS)).2).2.1
      · have eff5 : spDHasN .i32 4 v 3 3 b (spDn .i16 2 b (spDn .i32 4 b ((e, p) : DeS)).2).2 = (0, (spDn .i16 2 b (spDn .i32 4 b ((e, p) : DeS)).2).2) := by unfold spDHasN; rw [if_neg (by rw [hff5]; decide)]
        rw [eff5]
        rfl
      · have eff5 : spDHasN .i32 4 v 3 3 b (spDn .i16 2 b (spDn .i32 4 b ((e, p) : DeS)).2).2 = spDn .i32 4 b (spDn .i16 2 b (spDn .i32 4 b ((e, p) : DeS)).2).2 := by unfold spDHasN; rw [if_pos hff5]
        rw [eff5]
        refine (bif_true g1 _ _).trans ?_
        have gff5 : spDok b (spDn .i32 4 b (spDn .i16 2 b (spDn .i32 4 b ((e, p) : DeS)).2).2).2.2 = true := spDn_ok .i32 4 (s := (spDn .i16 2 b (spDn .i32 4 b ((e, p) : DeS)).2).2) g1
        rfl
    · have ef3 : spDHasN .i64 8 v 1 3 b (spDn .i16 2 b (spDn .i32 4 b ((e, p) : DeS)).2).2 = spDn .i64 8 b (spDn .i16 2 b (spDn .i32 4 b ((e, p) : DeS)).2).2 := by unfold spDHasN; rw [if_pos hf3]
      rw [ef3]
      refine (bif_true g1 _ _).trans ?_
      have gf3 : spDok b (spDn .i64 8 b (spDn .i16 2 b (spDn .i32 4 b ((e, p) : DeS)).2).2).2.2 = true := spDn_ok .i64 8 (s := (spDn .i16 2 b (spDn .i32 4 b ((e, p) : DeS)).2).2) g1
      have eft4 : spDHasN .i64 8 v 1 3 b (spDn .i64 8 b (spDn .i16 2 b (spDn .i32 4 b ((e, p) : DeS)).2).2).2 = spDn .i64 8 b (spDn .i64 8 b (spDn .i16 2 b (spDn .i32 4 b ((e, p) : DeS)).2).2).2 := spDHasN_in (spDHas_rng hf3) _
      rw [eft4]
      refine (bif_true gf3 _ _).trans ?_
      have gft4 : spDok b (spDn .i64 8 b (spDn .i64 8 b (spDn .i16 2 b (spDn .i32 4 b ((e, p) : DeS)).2).2).2).2.2 = true := spDn_ok .i64 8 (s := (spDn .i64 8 b (spDn .i16 2 b (spDn .i32 4 b ((e, p) : DeS)).2).2).2) gf3
      show (bif spDHas v 3 3 (spDn .i64 8 b (spDn .i64 8 b (spDn .i16 2 b (spDn .i32 4 b ((e, p) : DeS)).2).2).2).2.1 then _ else _) = _
      cases hft5 : spDHas v 3 3 (spDn .i64 8 b (spDn .i64 8 b (spDn .i16 2 b (spDn .i32 4 b ((e, p) : DeS)).2).2).2).2.1
      · have eft5 : spDHasN .i32 4 v 3 3 b (spDn .i64 8 b (spDn .i64 8 b (spDn .i16 2 b (spDn .i32 4 b ((e, p) : DeS)).2).2).2).2 = (0, (spDn .i64 8 b (spDn .i64 8 b (spDn .i16 2 b (spDn .i32 4 b ((e, p) : DeS)).2).2).2).2) := by unfold spDHasN; rw [if_neg (by rw [hft5]; decide)]
        rw [eft5]
        rfl
      · have eft5 : spDHasN .i32 4 v 3 3 b (spDn .i64 8 b (spDn .i64 8 b (spDn .i16 2 b (spDn .i32 4 b ((e, p) : DeS)).2).2).2).2 = spDn .i32 4 b (spDn .i64 8 b (spDn .i64 8 b (spDn .i16 2 b (spDn .i32 4 b ((e, p) : DeS)).2).2).2).2 := by unfold spDHasN; rw [if_pos hft5]
        rw [eft5]
        refine (bif_true gft4 _ _).trans ?_
        have gft5 : spDok b (spDn .i32 4 b (spDn .i64 8 b (spDn .i64 8 b (spDn .i16 2 b (spDn .i32 4 b ((e, p) : DeS)).2).2).2).2).2.2 = true := spDn_ok .i32 4 (s := (spDn .i64 8 b (spDn .i64 8 b (spDn .i16 2 b (spDn .i32 4 b ((e, p) : DeS)).2).2).2).2) gft4
        rfl
  · have e2 : spDHasNs v 0 0 b (spDn .i16 2 b (spDn .i32 4 b ((e, p) : DeS)).2).2 = spNsD b (spDn .i16 2 b (spDn .i32 4 b ((e, p) : DeS)).2).2 := by unfold spDHasNs; rw [if_pos h2]
    rw [e2]
    refine (bif_true g1 _ _).trans ?_
    have g2 : spDok b (spNsD b (spDn .i16 2 b (spDn .i32 4 b ((e, p) : DeS)).2).2).2.2 = true := spNsD_ok (s := (spDn .i16 2 b (spDn .i32 4 b ((e, p) : DeS)).2).2) g1
    show (bif spDHas v 1 3 (spNsD b (spDn .i16 2 b (spDn .i32 4 b ((e, p) : DeS)).2).2).2.1 then _ else _) = _
    cases ht3 : spDHas v 1 3 (spNsD b (spDn .i16 2 b (spDn .i32 4 b ((e, p) : DeS)).2).2).2.1
    · have et3 : spDHasN .i64 8 v 1 3 b (spNsD b (spDn .i16 2 b (spDn .i32 4 b ((e, p) : DeS)).2).2).2 = (0, (spNsD b (spDn .i16 2 b (spDn .i32 4 b ((e, p) : DeS)).2).2).2) := by unfold spDHasN; rw [if_neg (by rw [ht3]; decide)]
      rw [et3]
      have etf4 : spDHasN .i64 8 v 1 3 b (spNsD b (spDn .i16 2 b (spDn .i32 4 b ((e, p) : DeS)).2).2).2 = (0, (spNsD b (spDn .i16 2 b (spDn .i32 4 b ((e, p) : DeS)).2).2).2) := by unfold spDHasN; rw [if_neg (by rw [ht3]; decide)]
      rw [etf4]
      show (bif spDHas v 3 3 (spNsD b (spDn .i16 2 b (spDn .i32 4 b ((e, p) : DeS)).2).2).2.1 then _ else _) = _
      cases htf5 : spDHas v 3 3 (spNsD b (spDn .i16 2 b (spDn .i32 4 b ((e, p) : DeS)).2).2).2.1
      · have etf5 : spDHasN .i32 4 v 3 3 b (spNsD b (spDn .i16 2 b (spDn .i32 4 b ((e, p) : DeS)).2).2).2 = (0, (spNsD b (spDn .i16 2 b (spDn .i32 4 b ((e, p) : DeS)).2).2).2) := by unfold spDHasN; rw [if_neg (by rw [htf5]; decide)]
        rw [etf5]
        rfl
      · have etf5 : spDHasN .i32 4 v 3 3 b (spNsD b (spDn .i16 2 b (spDn .i32 4 b ((e, p) : DeS)).2).2).2 = spDn .i32 4 b (spNsD b (spDn .i16 2 b (spDn .i32 4 b ((e, p) : DeS)).2).2).2 := by unfold spDHasN; rw [if_pos htf5]
        rw [etf5]
        refine (bif_true g2 _ _).trans ?_
        have gtf5 : spDok b (spDn .i32 4 b (spNsD b (spDn .i16 2 b (spDn .i32 4 b ((e, p) : DeS)).2).2).2).2.2 = true := spDn_ok .i32 4 (s := (spNsD b (spDn .i16 2 b (spDn .i32 4 b ((e, p) : DeS)).2).2).2) g2
        rfl
    · have et3 : spDHasN .i64 8 v 1 3 b (spNsD b (spDn .i16 2 b (spDn .i32 4 b ((e, p) : DeS)).2).2).2 = spDn .i64 8 b (spNsD b (spDn .i16 2 b (spDn .i32 4 b ((e, p) : DeS)).2).2).2 := by unfold spDHasN; rw [if_pos ht3]
      rw [et3]
      refine (bif_true g2 _ _).trans ?_
      have gt3 : spDok b (spDn .i64 8 b (spNsD b (spDn .i16 2 b (spDn .i32 4 b ((e, p) : DeS)).2).2).2).2.2 = true := spDn_ok .i64 8 (s := (spNsD b (spDn .i16 2 b (spDn .i32 4 b ((e, p) : DeS)).2).2).2) g2
      have ett4 : spDHasN .i64 8 v 1 3 b (spDn .i64 8 b (spNsD b (spDn .i16 2 b (spDn .i32 4 b ((e, p) : DeS)).2).2).2).2 = spDn .i64 8 b (spDn .i64 8 b (spNsD b (spDn .i16 2 b (spDn .i32 4 b ((e, p) : DeS)).2).2).2).2 := spDHasN_in (spDHas_rng ht3) _
      rw [ett4]
      refine (bif_true gt3 _ _).trans ?_
      have gtt4 : spDok b (spDn .i64 8 b (spDn .i64 8 b (spNsD b (spDn .i16 2 b (spDn .i32 4 b ((e, p) : DeS)).2).2).2).2).2.2 = true := spDn_ok .i64 8 (s := (spDn .i64 8 b (spNsD b (spDn .i16 2 b (spDn .i32 4 b ((e, p) : DeS)).2).2).2).2) gt3
      show (bif spDHas v 3 3 (spDn .i64 8 b (spDn .i64 8 b (spNsD b (spDn .i16 2 b (spDn .i32 4 b ((e, p) : DeS)).2).2).2).2).2.1 then _ else _) = _
      cases htt5 : spDHas v 3 3 (spDn .i64 8 b (spDn .i64 8 b (spNsD b (spDn .i16 2 b (spDn .i32 4 b ((e, p) : DeS)).2).2).2).2).2.1
      · have ett5 : spDHasN .i32 4 v 3 3 b (spDn .i64 8 b (spDn .i64 8 b (spNsD b (spDn .i16 2 b (spDn .i32 4 b ((e, p) : DeS)).2).2).2).2).2 = (0, (spDn .i64 8 b (spDn .i64 8 b (spNsD b (spDn .i16 2 b (spDn .i32 4 b ((e, p) : DeS)).2).2).2).2).2) := by unfold spDHasN; rw [if_neg (by rw [htt5]; decide)]
        rw [ett5]
        rfl
      · have ett5 : spDHasN .i32 4 v 3 3 b (spDn .i64 8 b (spDn .i64 8 b (spNsD b (spDn .i16 2 b (spDn .i32 4 b ((e, p) : DeS)).2).2).2).2).2 = spDn .i32 4 b (spDn .i64 8 b (spDn .i64 8 b (spNsD b (spDn .i16 2 b (spDn .i32 4 b ((e, p) : DeS)).2).2).2).2).2 := by unfold spDHasN; rw [if_pos htt5]
        rw [ett5]
        refine (bif_true gtt4 _ _).trans ?_
        have gtt5 : spDok b (spDn .i32 4 b (spDn .i64 8 b (spDn .i64 8 b (spNsD b (spDn .i16 2 b (spDn .i32 4 b ((e, p) : DeS)).2).2).2).2).2).2.2 = true := spDn_ok .i32 4 (s := (spDn .i64 8 b (spDn .i64 8 b (spNsD b (spDn .i16 2 b (spDn .i32 4 b ((e, p) : DeS)).2).2).2).2).2) gtt4
        rfl
@[irreducible] noncomputable def sporPsD (v : Int) (b : List Int) (s : DeS) : List torPart.den × DeS := spList (sporPD v b) b s
theorem sporPsD_ok {v : Int} {b : List Int} {s : DeS} (h : spDok b s.2 = true) : spDok b (sporPsD v b s).2.2 = true := by
  unfold sporPsD
  exact spList_ok (fun s h => sporPD_ok h) h
abbrev iodorParts : Io := ⟨[.ptr 0 0, .fnc 86 false [2]], oDecC, [], [.dat (.sl 57 torPart) false false], none⟩
def FdorParts (d : iodorParts.In) : Tr iodorParts.Res := .ite (spDok d.2.2.1.1 d.2.2.1.2.1) (.ret (.ret (((sporPsD d.2.1.2.1 d.2.2.1.1 (decStC d.2)).1, ()), decOutC d.2.1.2.1 d.2.2.1.1 (sporPsD d.2.1.2.1 d.2.2.1.1 (decStC d.2)).2))) .no
abbrev csdorParts : List (Nat × Hc) := [(81, ioHd iodI32 FdI32), (86, ioHd iodorPart FdorPart)]
def hddorParts : Hd := hdT csdorParts
abbrev lodorParts_10 : Lo := ⟨⟨[.one (.ptr 0 0), .one (.fnp 86 false [2]), .any, .any, .any, .one (.hol (.int IntKind.i32)), .one (.onl 57 torPart 19), .one (.hol (.int IntKind.i32)), .any, .any, .any, .any, .any, .any, .any, .any, .any, .any, .any, .any, .any, .any, .any, .any, .any, .any, .any, .any, .any, .any, .any, .any, .any, .any, .any, .any, .any, .any, .any, .any, .any, .any, .any, .any, .any, .any], [some [.ptr 1 0, .hol (.int IntKind.i64), .hol (.int IntKind.i64)], some [.hol (.sl 5 (Ty.int IntKind.u8)), .hol (.int IntKind.i64)], some [.ptr 0 0]]⟩, [(.exit 1, ⟨[.any, .any, .any, .any, .any, .any, .one (.onl 57 torPart 19), .any, .any, .any, .any, .any, .any, .any, .any, .any, .any, .any, .any, .any, .any, .any, .any, .any, .any, .any, .any, .any, .any, .any, .any, .any, .any, .any, .any, .any, .any, .any, .any, .any, .any, .any, .any, .any, .any, .any], [some [.ptr 1 0, .hol (.int IntKind.i64), .hol (.int IntKind.i64)], some [.hol (.sl 5 (Ty.int IntKind.u8)), .hol (.int IntKind.i64)], some [.ptr 0 0]]⟩)]⟩
-- FdorParts_10 : lodorParts_10.st.den → Tr (DenX lodorParts_10.xs) | ((h4, (h5, (h6, ()))), ((h7, (h8, ())), ((h9, (h10, ())), ((), ()))))
def FdorParts_10 (d : lodorParts_10.st.den) : Tr (DenX lodorParts_10.xs) :=
  .ite (decide (d.1.2.2.1 = 0) && (decide (d.1.2.1.length = 0) && (spDok d.2.2.1.1 d.2.2.1.2.1 && (decide (d.1.1 ≤ (16 : Int)) || decide (d.2.1.2.1 ≠ 0))))) (.ret (.ret ((), (((spRep (sporPD d.2.1.1 d.2.2.1.1) d.1.1.toNat (d.2.1.2.1, d.2.2.1.2.1)).1, ()), decOutB d.2.1.1 d.2.2.1.1 (spRep (sporPD d.2.1.1 d.2.2.1.1) d.1.1.toNat (d.2.1.2.1, d.2.2.1.2.1)).2)))) .no
def lpdorParts : Lp := lpT [(10, loHd lodorParts_10 FdorParts_10)]
def stepdorParts_10 {R : Type} (h4 : Int) (h5 : List torPart.den) (h6 : Int) (h7 : Int) (h8 : Int) (h9 : List Int) (h10 : Int) (next : Int → List torPart.den → Int → Int → Int → List Int → Int → Option R) (out : DenX lodorParts_10.xs → Option R) : Option R := bif decide (h6 < h4) then bif h8 == 0 then bif spDok h9 h10 then bif decide (h5.length + 1 ≤ 4294967296) then next (h4) (h5 ++ [(sporPD h7 h9 (h8, h10)).fst]) (IntKind.i32.wrap (h6 + 1)) (h7) ((sporPD h7 h9 (h8, h10)).snd.fst) (h9) ((sporPD h7 h9 (h8, h10)).snd.snd) else none else none else out (.ret ((), ((h5, ()), ((h7, (h8, ())), ((h9, (h10, ())), ((), ())))))) else out (.ret ((), ((h5, ()), ((h7, (h8, ())), ((h9, (h10, ())), ((), ()))))))
def itdorParts_10 (n : Nat) (h4 : Int) (h5 : List torPart.den) (h6 : Int) (h7 : Int) (h8 : Int) (h9 : List Int) (h10 : Int) : Option (DenX lodorParts_10.xs) := lpN tt hddorParts dr lpdorParts 3 Go.Proofs.Tryz.f85 (topL Go.Proofs.Tryz.f85 0) n (lodorParts_10.st.mk' ((h4, (h5, (h6, ()))), ((h7, (h8, ())), ((h9, (h10, ())), ((), ()))))) (decX lodorParts_10.xs)
theorem sldorParts_10 (n : Nat) (h4 : Int) (h5 : List torPart.den) (h6 : Int) (h7 : Int) (h8 : Int) (h9 : List Int) (h10 : Int) : itdorParts_10 (n + 1) h4 h5 h6 h7 h8 h9 h10 = stepdorParts_10 h4 h5 h6 h7 h8 h9 h10 (itdorParts_10 n) some := by kernel_rfl
theorem loopdorParts (n v : Int) (b : List Int) : ∀ (k j : Nat) (xs : List torPart.den) (s : DeS), n.toNat < j + k → j ≤ n.toNat → xs.length = j → spDok b s.2 = true → (s.1 = 0 → n ≤ 16) →
    itdorParts_10 k n xs j v s.1 b s.2 = some (.ret ((), ((xs ++ (spRep (sporPD v b) (n.toNat - j) s).1, ()), decOutB v b (spRep (sporPD v b) (n.toNat - j) s).2))) := by
  intro k
  induction k with
  | zero => intro j xs s h; omega
  | succ k ih =>
    intro j xs s h1 h2 h3 h4 h5
    rw [sldorParts_10]
    unfold stepdorParts_10
    by_cases hj : (j : Int) < n
    · refine (bif_true (by simpa using hj) _ _).trans ?_
      obtain ⟨m, hm⟩ : ∃ m, n.toNat - j = m + 1 := ⟨n.toNat - j - 1, by omega⟩
      rw [hm]
      by_cases he : s.1 = 0
      · refine (bif_true (by simpa using he) _ _).trans ?_
        have hn := h5 he
        refine (bif_true h4 _ _).trans ?_
        refine (bif_true (decide_eq_true (show xs.length + 1 ≤ 4294967296 by omega)) _ _).trans ?_
        have hw : IntKind.i32.wrap ((j : Int) + 1) = ((j + 1 : Nat) : Int) := wrap_id (by simp [inR, IntKind.min, IntKind.max, IntKind.signed, IntKind.bits]; omega)
        rw [hw]
        refine (ih (j + 1) (xs ++ [(sporPD v b s).1]) (sporPD v b s).2 (by omega) (by omega) (by simp [h3]) (sporPD_ok h4) (fun _ => hn)).trans ?_
        rw [show n.toNat - (j + 1) = m by omega, spRep, if_pos he]
        simp
      · refine (bif_false (by simpa using he) _ _).trans ?_
        rw [spRep, if_neg he]
        simp
    · refine (bif_false (by simpa using hj) _ _).trans ?_
      rw [show n.toNat - j = 0 by omega, spRep]
      simp
def bodydorParts (a0 : Int) (a1 : Int) (a2 : List Int) (a3 : Int) : Option iodorParts.Res := bif spDok a2 a3 then bif (spDn IntKind.i32 4 a2 (a1, a3)).snd.fst != 0 then (FdorParts_10 (((spDn IntKind.i32 4 a2 (a1, a3)).fst, ([], (0, ()))), ((a0, ((spDn IntKind.i32 4 a2 (a1, a3)).snd.fst, ())), ((a2, ((spDn IntKind.i32 4 a2 (a1, a3)).snd.snd, ())), ((), ()))))).run fun y => match y with | .ret ((), ((x28, ()), (x29, x30, ()), (x31, x32, ()), (), ())) => (some (Out.ret ((x28, ()), ((), x29, x30, ()), (x31, x32, ()), ((), ()), ()))) else bif decide ((spDn IntKind.i32 4 a2 (a1, a3)).fst < 0) then (FdorParts_10 (((spDn IntKind.i32 4 a2 (a1, a3)).fst, ([], (0, ()))), ((a0, (5, ())), ((a2, ((spDn IntKind.i32 4 a2 (a1, a3)).snd.snd, ())), ((), ()))))).run fun y => match y with | .ret ((), ((x40, ()), (x41, x42, ()), (x43, x44, ()), (), ())) => (some (Out.ret ((x40, ()), ((), x41, x42, ()), (x43, x44, ()), ((), ()), ()))) else bif decide (16 < (spDn IntKind.i32 4 a2 (a1, a3)).fst) then (FdorParts_10 (((spDn IntKind.i32 4 a2 (a1, a3)).fst, ([], (0, ()))), ((a0, (9, ())), ((a2, ((spDn IntKind.i32 4 a2 (a1, a3)).snd.snd, ())), ((), ()))))).run fun y => match y with | .ret ((), ((x52, ()), (x53, x54, ()), (x55, x56, ()), (), ())) => (some (Out.ret ((x52, ()), ((), x53, x54, ()), (x55, x56, ()), ((), ()), ()))) else (FdorParts_10 (((spDn IntKind.i32 4 a2 (a1, a3)).fst, ([], (0, ()))), ((a0, ((spDn IntKind.i32 4 a2 (a1, a3)).snd.fst, ())), ((a2, ((spDn IntKind.i32 4 a2 (a1, a3)).snd.snd, ())), ((), ()))))).run fun y => match y with | .ret ((), ((x64, ()), (x65, x66, ()), (x67, x68, ()), (), ())) => (some (Out.ret ((x64, ()), ((), x65, x66, ()), (x67, x68, ()), ((), ()), ()))) else none
theorem rundorParts (a0 : Int) (a1 : Int) (a2 : List Int) (a3 : Int) : Io.run tt hddorParts dr lpdorParts iodorParts Go.Proofs.Tryz.f85 (((), (), ()), ((), a0, a1, ()), (a2, a3, ()), ((), ()), ()) = bodydorParts a0 a1 a2 a3 := by kernel_rfl
theorem okdorParts : HcOk prog 85 (ioHd iodorParts FdorParts) := by
  refine fn_sound (n := 400) hm (cs := csdorParts) (.cons okdI32 (.cons okdorPart .nil)) (lp := lpdorParts) (fn := Go.Proofs.Tryz.f85) (by kernel_rfl) (by kernel_rfl) (by kernel_rfl) iodorParts (.step (h0 := loHd lodorParts_10 FdorParts_10) (by kernel_rfl) (loop_sound (n := 400) hm (cs := csdorParts) (.cons okdI32 (.cons okdorPart .nil)) (lp := lpdorParts) (fn := Go.Proofs.Tryz.f85) (.done (by kernel_rfl)) lodorParts_10 FdorParts_10 ?_) (.done (by kernel_rfl))) FdorParts ?_
  · rintro ⟨⟨(n : Int), (xs : List torPart.den), (i : Int), ⟨⟩⟩, ⟨⟨(v : Int), (e : Int), ⟨⟩⟩, ⟨(b : List Int), (p : Int), ⟨⟩⟩, ⟨⟨⟩, ⟨⟩⟩⟩⟩ y hw hy
    obtain ⟨hg, hy⟩ := Tr.guard hy
    simp only [Bool.and_eq_true, decide_eq_true_eq, Bool.or_eq_true] at hg
    obtain ⟨h1, h2, h3, h4⟩ := hg
    have h1 : i = 0 := h1
    have h2 : xs = [] := List.eq_nil_of_length_eq_zero h2
    have h3 : spDok b p = true := h3
    have h4 : n ≤ 16 ∨ e ≠ 0 := h4
    subst h1
    subst h2
    refine ⟨n.toNat + 1, (loopdorParts n v b (n.toNat + 1) 0 [] (e, p) (by omega) (by omega) rfl h3 (fun he => h4.resolve_right (fun h => h he))).trans ?_⟩
    rw [← hy]; rfl
  · rintro ⟨⟨⟨⟩, ⟨⟩, ⟨⟩⟩, ⟨⟨⟩, (v : Int), (e : Int), ⟨⟩⟩, ⟨(b : List Int), (p : Int), ⟨⟩⟩, ⟨⟨⟩, ⟨⟩⟩, ⟨⟩⟩ out hw ho
    obtain ⟨hg, ho⟩ := Tr.guard ho
    have hg : spDok b p = true := hg
    cases ho
    refine (rundorParts v e b p).trans ?_
    unfold bodydorParts
    show _ = some (Out.ret (((sporPsD v b (e, p)).1, ()), decOutC v b (sporPsD v b (e, p)).2))
    unfold sporPsD spList
    refine (bif_true hg _ _).trans ?_
    have hr : spDok b (spDn .i32 4 b (e, p)).2.2 = true := spDn_ok .i32 4 (s := (e, p)) hg
    generalize spDn .i32 4 b (e, p) = r at hr ⊢
    obtain ⟨n, e1, q⟩ := r
    have hr : spDok b q = true := hr
    have key : ∀ e' : Int, (e' = 0 → n ≤ 16) → FdorParts_10 ((n, ([], (0, ()))), ((v, (e', ())), ((b, (q, ())), ((), ())))) = .ite true (.ret (.ret ((), (((spRep (sporPD v b) n.toNat (e', q)).1, ()), decOutB v b (spRep (sporPD v b) n.toNat (e', q)).2)))) .no := by
      intro e' he
      refine congrArg (fun c => Tr.ite c _ _) ?_
      show (decide ((0 : Int) = 0) && (decide (([] : List torPart.den).length = 0) && (spDok b q && (decide (n ≤ 16) || decide (e' ≠ 0))))) = true
      rw [hr]
      by_cases h : e' = 0
      · simp [he h]
      · simp [h]
    unfold spLen
    show (bif e1 != 0 then _ else _) = _
    by_cases h1 : e1 = 0
    · refine (bif_false (by simpa using h1) _ _).trans ?_
      show (bif decide (n < 0) then _ else _) = _
      rw [if_pos h1]
      by_cases h2 : n < 0
      · refine (bif_true (by simpa using h2) _ _).trans ?_
        show (FdorParts_10 ((n, ([], (0, ()))), ((v, (5, ())), ((b, (q, ())), ((), ()))))).run _ = _
        rw [key 5 (by omega), if_pos h2]
        rfl
      · refine (bif_false (by simpa using h2) _ _).trans ?_
        show (bif decide (16 < n) then _ else _) = _
        rw [if_neg h2]
        by_cases h3 : 16 < n
        · refine (bif_true (by simpa using h3) _ _).trans ?_
          show (FdorParts_10 ((n, ([], (0, ()))), ((v, (9, ())), ((b, (q, ())), ((), ()))))).run _ = _
          rw [key 9 (by omega), if_pos h3]
          rfl
        · refine (bif_false (by simpa using h3) _ _).trans ?_
          show (FdorParts_10 ((n, ([], (0, ()))), ((v, (e1, ())), ((b, (q, ())), ((), ()))))).run _ = _
          rw [key e1 (by omega), if_neg h3]
          rfl
    · refine (bif_true (by simpa using h1) _ _).trans ?_
      show (FdorParts_10 ((n, ([], (0, ()))), ((v, (e1, ())), ((b, (q, ())), ((), ()))))).run _ = _
      rw [key e1 (fun h => absurd h h1), if_neg h1]
      rfl
@[irreducible] noncomputable def sporTD (v : Int) (b : List Int) (s : DeS) : torTopic.den × DeS := (((spDStr b s).1, ((sporPsD v b (spDStr b s).2).1, ())), (sporPsD v b (spDStr b s).2).2)
theorem sporTD_ok {v : Int} {b : List Int} {s : DeS} (h : spDok b s.2 = true) : spDok b (sporTD v b s).2.2 = true := by
  unfold sporTD
  exact sporPsD_ok (spDStr_ok h)
abbrev iodorTopic : Io := ⟨[.ptr 0 0], oDec1, [], [.dat torTopic true false], none⟩
def FdorTopic (d : iodorTopic.In) : Tr iodorTopic.Res := .ite (spDok d.2.2.2.1.1 d.2.2.2.1.2.1) (.ret (.ret (((sporTD d.2.2.1.2.1 d.2.2.2.1.1 (decSt d.2.2)).1, ()), decOut1 d.2.2.1.2.1 d.2.2.2.1.1 (sporTD d.2.2.1.2.1 d.2.2.2.1.1 (decSt d.2.2)).2))) .no
abbrev csdorTopic : List (Nat × Hc) := [(84, ioHd iodStr FdStr), (85, ioHd iodorParts FdorParts)]
def hddorTopic : Hd := hdT csdorTopic
def lpdorTopic : Lp := lpT []
def bodydorTopic (a0 : Int) (a1 : Int) (a2 : List Int) (a3 : Int) : Option iodorTopic.Res := bif spDok a2 a3 then bif spDok a2 (spDStr a2 (a1, a3)).snd.snd then some (Out.ret ((((spDStr a2 (a1, a3)).fst, (sporPsD a0 a2 (spDStr a2 (a1, a3)).snd).fst, ()), ()), ((), ()), ((), a0, (sporPsD a0 a2 (spDStr a2 (a1, a3)).snd).snd.fst, ()), (a2, (sporPsD a0 a2 (spDStr a2 (a1, a3)).snd).snd.snd, ()), ())) else none else none
theorem rundorTopic (a0 : Int) (a1 : Int) (a2 : List Int) (a3 : Int) : Io.run tt hddorTopic dr lpdorTopic iodorTopic Go.Proofs.Tryz.f83 (((), ()), ((), ()), ((), a0, a1, ()), (a2, a3, ()), ()) = bodydorTopic a0 a1 a2 a3 := by kernel_rfl
theorem okdorTopic : HcOk prog 83 (ioHd iodorTopic FdorTopic) := by
  refine fn_sound (n := 400) hm (cs := csdorTopic) (.cons okdStr (.cons okdorParts .nil)) (lp := lpdorTopic) (fn := Go.Proofs.Tryz.f83) (by kernel_rfl) (by kernel_rfl) (by kernel_rfl) iodorTopic (.done (by kernel_rfl)) FdorTopic ?_
  rintro ⟨⟨⟨⟩, ⟨⟩⟩, ⟨⟨⟩, ⟨⟩⟩, ⟨⟨⟩, (v : Int), (e : Int), ⟨⟩⟩, ⟨(b : List Int), (p : Int), ⟨⟩⟩, ⟨⟩⟩ out hw ho
  obtain ⟨hg, ho⟩ := Tr.guard ho
  have hg : spDok b p = true := hg
  cases ho
  refine (rundorTopic v e b p).trans ?_
  unfold bodydorTopic
  show _ = some (Out.ret (((sporTD v b (e, p)).1, ()), decOut1 v b (sporTD v b (e, p)).2))
  unfold sporTD
  refine (bif_true hg _ _).trans ?_
  exact bif_true (spDStr_ok (s := (e, p)) hg) _ _
@[irreducible] noncomputable def sporTsD (v : Int) (b : List Int) (s : DeS) : List torTopic.den × DeS := spList (sporTD v b) b s
theorem sporTsD_ok {v : Int} {b : List Int} {s : DeS} (h : spDok b s.2 = true) : spDok b (sporTsD v b s).2.2 = true := by
  unfold sporTsD
  exact spList_ok (fun s h => sporTD_ok h) h
abbrev iodorTopics : Io := ⟨[.ptr 0 0, .fnc 83 false [2]], oDecC, [], [.dat (.sl 53 torTopic) false false], none⟩
def FdorTopics (d : iodorTopics.In) : Tr iodorTopics.Res := .ite (spDok d.2.2.1.1 d.2.2.1.2.1) (.ret (.ret (((sporTsD d.2.1.2.1 d.2.2.1.1 (decStC d.2)).1, ()), decOutC d.2.1.2.1 d.2.2.1.1 (sporTsD d.2.1.2.1 d.2.2.1.1 (decStC d.2)).2))) .no
abbrev csdorTopics : List (Nat × Hc) := [(81, ioHd iodI32 FdI32), (83, ioHd iodorTopic FdorTopic)]
def hddorTopics : Hd := hdT csdorTopics
abbrev lodorTopics_10 : Lo := ⟨⟨[.one (.ptr 0 0), .one (.fnp 83 false [2]), .any, .any, .any, .one (.hol (.int IntKind.i32)), .one (.onl 53 torTopic 19), .one (.hol (.int IntKind.i32)), .any, .any, .any, .any, .any, .any, .any, .any, .any, .any, .any, .any, .any, .any, .any, .any, .any, .any, .any, .any, .any, .any, .any, .any, .any, .any, .any, .any, .any, .any, .any, .any, .any, .any, .any, .any, .any, .any], [some [.ptr 1 0, .hol (.int IntKind.i64), .hol (.int IntKind.i64)], some [.hol (.sl 5 (Ty.int IntKind.u8)), .hol (.int IntKind.i64)], some [.ptr 0 0]]⟩, [(.exit 1, ⟨[.any, .any, .any, .any, .any, .any, .one (.onl 53 torTopic 19), .any, .any, .any, .any, .any, .any, .any, .any, .any, .any, .any, .any, .any, .any, .any, .any, .any, .any, .any, .any, .any, .any, .any, .any, .any, .any, .any, .any, .any, .any, .any, .any, .any, .any, .any, .any, .any, .any, .any], [some [.ptr 1 0, .hol (.int IntKind.i64), .hol (.int IntKind.i64)], some [.hol (.sl 5 (Ty.int IntKind.u8)), .hol (.int IntKind.i64)], some [.ptr 0 0]]⟩)]⟩
-- FdorTopics_10 : lodorTopics_10.st.den → Tr (DenX lodorTopics_10.xs) | ((h4, (h5, (h6, ()))), ((h7, (h8, ())), ((h9, (h10, ())), ((), ()))))
def FdorTopics_10 (d : lodorTopics_10.st.den) : Tr (DenX lodorTopics_10.xs) :=
  .ite (decide (d.1.2.2.1 = 0) && (decide (d.1.2.1.length = 0) && (spDok d.2.2.1.1 d.2.2.1.2.1 && (decide (d.1.1 ≤ (16 : Int)) || decide (d.2.1.2.1 ≠ 0))))) (.ret (.ret ((), (((spRep (sporTD d.2.1.1 d.2.2.1.1) d.1.1.toNat (d.2.1.2.1, d.2.2.1.2.1)).1, ()), decOutB d.2.1.1 d.2.2.1.1 (spRep (sporTD d.2.1.1 d.2.2.1.1) d.1.1.toNat (d.2.1.2.1, d.2.2.1.2.1)).2)))) .no
def lpdorTopics : Lp := lpT [(10, loHd lodorTopics_10 FdorTopics_10)]
def stepdorTopics_10 {R : Type} (h4 : Int) (h5 : List torTopic.den) (h6 : Int) (h7 : Int) (h8 : Int) (h9 : List Int) (h10 : Int) (next : Int → List torTopic.den → Int → Int → Int → List Int → Int → Option R) (out : DenX lodorTopics_10.xs → Option R) : Option R := bif decide (h6 < h4) then bif h8 == 0 then bif spDok h9 h10 then bif decide (h5.length + 1 ≤ 4294967296) then next (h4) (h5 ++ [(sporTD h7 h9 (h8, h10)).fst]) (IntKind.i32.wrap (h6 + 1)) (h7) ((sporTD h7 h9 (h8, h10)).snd.fst) (h9) ((sporTD h7 h9 (h8, h10)).snd.snd) else none else none else out (.ret ((), ((h5, ()), ((h7, (h8, ())), ((h9, (h10, ())), ((), ())))))) else out (.ret ((), ((h5, ()), ((h7, (h8, ())), ((h9, (h10, ())), ((), ()))))))
def itdorTopics_10 (n : Nat) (h4 : Int) (h5 : List torTopic.den) (h6 : Int) (h7 : Int) (h8 : Int) (h9 : List Int) (h10 : Int) : Option (DenX lodorTopics_10.xs) := lpN tt hddorTopics dr lpdorTopics 3 Go.Proofs.Tryz.f82 (topL Go.Proofs.Tryz.f82 0) n (lodorTopics_10.st.mk' ((h4, (h5, (h6, ()))), ((h7, (h8, ())), ((h9, (h10, ())), ((), ()))))) (decX lodorTopics_10.xs)
theorem sldorTopics_10 (n : Nat) (h4 : Int) (h5 : List torTopic.den) (h6 : Int) (h7 : Int) (h8 : Int) (h9 : List Int) (h10 : Int) : itdorTopics_10 (n + 1) h4 h5 h6 h7 h8 h9 h10 = stepdorTopics_10 h4 h5 h6 h7 h8 h9 h10 (itdorTopics_10 n) some := by kernel_rfl
theorem loopdorTopics (n v : Int) (b : List Int) : ∀ (k j : Nat) (xs : List torTopic.den) (s : DeS), n.toNat < j + k → j ≤ n.toNat → xs.length = j → spDok b s.2 = true → (s.1 = 0 → n ≤ 16) →
    itdorTopics_10 k n xs j v s.1 b s.2 = some (.ret ((), ((xs ++ (spRep (sporTD v b) (n.toNat - j) s).1, ()), decOutB v b (spRep (sporTD v b) (n.toNat - j) s).2))) := by
  intro k
  induction k with
  | zero => intro j xs s h; omega
  | succ k ih =>
    intro j xs s h1 h2 h3 h4 h5
    rw [sldorTopics_10]
    unfold stepdorTopics_10
    by_cases hj : (j : Int) < n
    · refine (bif_true (by simpa using hj) _ _).trans ?_
      obtain ⟨m, hm⟩ : ∃ m, n.toNat - j = m + 1 := ⟨n.toNat - j - 1, by omega⟩
      rw [hm]
      by_cases he : s.1 = 0
      · refine (bif_true (by simpa using he) _ _).trans ?_
        have hn := h5 he
        refine (bif_true h4 _ _).trans ?_
        refine (bif_true (decide_eq_true (show xs.length + 1 ≤ 4294967296 by omega)) _ _).trans ?_
        have hw : IntKind.i32.wrap ((j : Int) + 1) = ((j + 1 : Nat) : Int) := wrap_id (by simp [inR, IntKind.min, IntKind.max, IntKind.signed, IntKind.bits]; omega)
        rw [hw]
        refine (ih (j + 1) (xs ++ [(sporTD v b s).1]) (sporTD v b s).2 (by omega) (by omega) (by simp [h3]) (sporTD_ok h4) (fun _ => hn)).trans ?_
        rw [show n.toNat - (j + 1) = m by omega, spRep, if_pos he]
        simp
      · refine (bif_false (by simpa using he) _ _).trans ?_
        rw [spRep, if_neg he]
        simp
    · refine (bif_false (by simpa using hj) _ _).trans ?_
      rw [show n.toNat - j = 0 by omega, spRep]
      simp
def bodydorTopics (a0 : Int) (a1 : Int) (a2 : List Int) (a3 : Int) : Option iodorTopics.Res := bif spDok a2 a3 then bif (spDn IntKind.i32 4 a2 (a1, a3)).snd.fst != 0 then (FdorTopics_10 (((spDn IntKind.i32 4 a2 (a1, a3)).fst, ([], (0, ()))), ((a0, ((spDn IntKind.i32 4 a2 (a1, a3)).snd.fst, ())), ((a2, ((spDn IntKind.i32 4 a2 (a1, a3)).snd.snd, ())), ((), ()))))).run fun y => match y with | .ret ((), ((x28, ()), (x29, x30, ()), (x31, x32, ()), (), ())) => (some (Out.ret ((x28, ()), ((), x29, x30, ()), (x31, x32, ()), ((), ()), ()))) else bif decide ((spDn IntKind.i32 4 a2 (a1, a3)).fst < 0) then (FdorTopics_10 (((spDn IntKind.i32 4 a2 (a1, a3)).fst, ([], (0, ()))), ((a0, (5, ())), ((a2, ((spDn IntKind.i32 4 a2 (a1, a3)).snd.snd, ())), ((), ()))))).run fun y => match y with | .ret ((), ((x40, ()), (x41, x42, ()), (x43, x44, ()), (), ())) => (some (Out.ret ((x40, ()), ((), x41, x42, ()), (x43, x44, ()), ((), ()), ()))) else bif decide (16 < (spDn IntKind.i32 4 a2 (a1, a3)).fst) then (FdorTopics_10 (((spDn IntKind.i32 4 a2 (a1, a3)).fst, ([], (0, ()))), ((a0, (9, ())), ((a2, ((spDn IntKind.i32 4 a2 (a1, a3)).snd.snd, ())), ((), ()))))).run fun y => match y with | .ret ((), ((x52, ()), (x53, x54, ()), (x55, x56, ()), (), ())) => (some (Out.ret ((x52, ()), ((), x53, x54, ()), (x55, x56, ()), ((), ()), ()))) else (FdorTopics_10 (((spDn IntKind.i32 4 a2 (a1, a3)).fst, ([], (0, ()))), ((a0, ((spDn IntKind.i32 4 a2 (a1, a3)).snd.fst, ())), ((a2, ((spDn IntKind.i32 4 a2 (a1, a3)).snd.snd, ())), ((), ()))))).run fun y => match y with | .ret ((), ((x64, ()), (x65, x66, ()), (x67, x68, ()), (), ())) => (some (Out.ret ((x64, ()), ((), x65, x66, ()), (x67, x68, ()), ((), ()), ()))) else none
theorem rundorTopics (a0 : Int) (a1 : Int) (a2 : List Int) (a3 : Int) : Io.run tt hddorTopics dr lpdorTopics iodorTopics Go.Proofs.Tryz.f82 (((), (), ()), ((), a0, a1, ()), (a2, a3, ()), ((), ()), ()) = bodydorTopics a0 a1 a2 a3 := by kernel_rfl
theorem okdorTopics : HcOk prog 82 (ioHd iodorTopics FdorTopics) := by
  refine fn_sound (n := 400) hm (cs := csdorTopics) (.cons okdI32 (.cons okdorTopic .nil)) (lp := lpdorTopics) (fn := Go.Proofs.Tryz.f82) (by kernel_rfl) (by kernel_rfl) (by kernel_rfl) iodorTopics (.step (h0 := loHd lodorTopics_10 FdorTopics_10) (by kernel_rfl) (loop_sound (n := 400) hm (cs := csdorTopics) (.cons okdI32 (.cons okdorTopic .nil)) (lp := lpdorTopics) (fn := Go.Proofs.Tryz.f82) (.done (by kernel_rfl)) lodorTopics_10 FdorTopics_10 ?_) (.done (by kernel_rfl))) FdorTopics ?_
  · rintro ⟨⟨(n : Int), (xs : List torTopic.den), (i : Int), ⟨⟩⟩, ⟨⟨(v : Int), (e : Int), ⟨⟩⟩, ⟨(b : List Int), (p : Int), ⟨⟩⟩, ⟨⟨⟩, ⟨⟩⟩⟩⟩ y hw hy
    obtain ⟨hg, hy⟩ := Tr.guard hy
    simp only [Bool.and_eq_true, decide_eq_true_eq, Bool.or_eq_true] at hg
    obtain ⟨h1, h2, h3, h4⟩ := hg
    have h1 : i = 0 := h1
    have h2 : xs = [] := List.eq_nil_of_length_eq_zero h2
    have h3 : spDok b p = true := h3
    have h4 : n ≤ 16 ∨ e ≠ 0 := h4
    subst h1
    subst h2
    refine ⟨n.toNat + 1, (loopdorTopics n v b (n.toNat + 1) 0 [] (e, p) (by omega) (by omega) rfl h3 (fun he => h4.resolve_right (fun h => h he))).trans ?_⟩
    rw [← hy]; rfl
  · rintro ⟨⟨⟨⟩, ⟨⟩, ⟨⟩⟩, ⟨⟨⟩, (v : Int), (e : Int), ⟨⟩⟩, ⟨(b : List Int), (p : Int), ⟨⟩⟩, ⟨⟨⟩, ⟨⟩⟩, ⟨⟩⟩ out hw ho
    obtain ⟨hg, ho⟩ := Tr.guard ho
    have hg : spDok b p = true := hg
    cases ho
    refine (rundorTopics v e b p).trans ?_
    unfold bodydorTopics
    show _ = some (Out.ret (((sporTsD v b (e, p)).1, ()), decOutC v b (sporTsD v b (e, p)).2))
    unfold sporTsD spList
    refine (bif_true hg _ _).trans ?_
    have hr : spDok b (spDn .i32 4 b (e, p)).2.2 = true := spDn_ok .i32 4 (s := (e, p)) hg
    generalize spDn .i32 4 b (e, p) = r at hr ⊢
    obtain ⟨n, e1, q⟩ := r
    have hr : spDok b q = true := hr
    have key : ∀ e' : Int, (e' = 0 → n ≤ 16) → FdorTopics_10 ((n, ([], (0, ()))), ((v, (e', ())), ((b, (q, ())), ((), ())))) = .ite true (.ret (.ret ((), (((spRep (sporTD v b) n.toNat (e', q)).1, ()), decOutB v b (spRep (sporTD v b) n.toNat (e', q)).2)))) .no := by
      intro e' he
      refine congrArg (fun c => Tr.ite c _ _) ?_
      show (decide ((0 : Int) = 0) && (decide (([] : List torTopic.den).length = 0) && (spDok b q && (decide (n ≤ 16) || decide (e' ≠ 0))))) = true
      rw [hr]
      by_cases h : e' = 0
      · simp [he h]
      · simp [h]
    unfold spLen
    show (bif e1 != 0 then _ else _) = _
    by_cases h1 : e1 = 0
    · refine (bif_false (by simpa using h1) _ _).trans ?_
      show (bif decide (n < 0) then _ else _) = _
      rw [if_pos h1]
      by_cases h2 : n < 0
      · refine (bif_true (by simpa using h2) _ _).trans ?_
        show (FdorTopics_10 ((n, ([], (0, ()))), ((v, (5, ())), ((b, (q, ())), ((), ()))))).run _ = _
        rw [key 5 (by omega), if_pos h2]
        rfl
      · refine (bif_false (by simpa using h2) _ _).trans ?_
        show (bif decide (16 < n) then _ else _) = _
        rw [if_neg h2]
        by_cases h3 : 16 < n
        · refine (bif_true (by simpa using h3) _ _).trans ?_
          show (FdorTopics_10 ((n, ([], (0, ()))), ((v, (9, ())), ((b, (q, ())), ((), ()))))).run _ = _
          rw [key 9 (by omega), if_pos h3]
          rfl
        · refine (bif_false (by simpa using h3) _ _).trans ?_
          show (FdorTopics_10 ((n, ([], (0, ()))), ((v, (e1, ())), ((b, (q, ())), ((), ()))))).run _ = _
          rw [key e1 (by omega), if_neg h3]
          rfl
    · refine (bif_true (by simpa using h1) _ _).trans ?_
      show (FdorTopics_10 ((n, ([], (0, ()))), ((v, (e1, ())), ((b, (q, ())), ((), ()))))).run _ = _
      rw [key e1 (fun h => absurd h h1), if_neg h1]
      rfl
abbrev iodorTopicsZ : Io := ⟨[.ptr 0 0, .fnc 83 false [1]], oDecCZ, [], [.dat (.sl 53 torTopic) false false], none⟩
def FdorTopicsZ (d : iodorTopicsZ.In) : Tr iodorTopicsZ.Res := .ite (decide (d.2.1.2.2.1 ≠ 0)) (.ret (.ret ((([] : List torTopic.den), ()), d.2))) .no
abbrev csdorTopicsZ : List (Nat × Hc) := [(81, orHd deadB (ioHd iodI32Z FdI32Z) (ioHd iodI32 FdI32))]
def hddorTopicsZ : Hd := hdT csdorTopicsZ
abbrev lodorTopicsZ_10 : Lo := ⟨⟨[.one (.ptr 0 0), .one (.fnp 83 false [1]), .any, .any, .any, .one (.hol (.int IntKind.i32)), .one (.onl 53 torTopic 17), .one (.hol (.int IntKind.i32)), .any, .any, .any, .any, .any, .any, .any, .any, .any, .any, .any, .any, .any, .any, .any, .any, .any, .any, .any, .any, .any, .any, .any, .any, .any, .any, .any, .any, .any, .any, .any, .any, .any, .any, .any, .any, .any, .any], [some [.nilp, .hol (.int IntKind.i64), .hol (.int IntKind.i64)], some [.ptr 0 0]]⟩, [(.exit 1, ⟨[.any, .any, .any, .any, .any, .any, .one (.onl 53 torTopic 17), .any, .any, .any, .any, .any, .any, .any, .any, .any, .any, .any, .any, .any, .any, .any, .any, .any, .any, .any, .any, .any, .any, .any, .any, .any, .any, .any, .any, .any, .any, .any, .any, .any, .any, .any, .any, .any, .any, .any], [some [.nilp, .hol (.int IntKind.i64), .hol (.int IntKind.i64)], some [.ptr 0 0]]⟩)]⟩
-- FdorTopicsZ_10 : lodorTopicsZ_10.st.den → Tr (DenX lodorTopicsZ_10.xs) | ((h2, (h3, (h4, ()))), ((h5, (h6, ())), ((), ())))
def FdorTopicsZ_10 (d : lodorTopicsZ_10.st.den) : Tr (DenX lodorTopicsZ_10.xs) :=
  .ite (decide (d.2.1.2.1 ≠ 0)) (.ret (.ret ((), ((d.1.2.1, ()), d.2)))) .no
def lpdorTopicsZ : Lp := lpT [(10, loHd lodorTopicsZ_10 FdorTopicsZ_10)]
def stepdorTopicsZ_10 {R : Type} (h2 : Int) (h3 : List torTopic.den) (h4 : Int) (h5 : Int) (h6 : Int) (next : Int → List torTopic.den → Int → Int → Int → Option R) (out : DenX lodorTopicsZ_10.xs → Option R) : Option R := bif decide (h4 < h2) then bif h6 == 0 then none else out (.ret ((), ((h3, ()), ((h5, (h6, ())), ((), ()))))) else out (.ret ((), ((h3, ()), ((h5, (h6, ())), ((), ())))))
def itdorTopicsZ_10 (n : Nat) (h2 : Int) (h3 : List torTopic.den) (h4 : Int) (h5 : Int) (h6 : Int) : Option (DenX lodorTopicsZ_10.xs) := lpN tt hddorTopicsZ dr lpdorTopicsZ 2 Go.Proofs.Tryz.f82 (topL Go.Proofs.Tryz.f82 0) n (lodorTopicsZ_10.st.mk' ((h2, (h3, (h4, ()))), ((h5, (h6, ())), ((), ())))) (decX lodorTopicsZ_10.xs)
theorem sldorTopicsZ_10 (n : Nat) (h2 : Int) (h3 : List torTopic.den) (h4 : Int) (h5 : Int) (h6 : Int) : itdorTopicsZ_10 (n + 1) h2 h3 h4 h5 h6 = stepdorTopicsZ_10 h2 h3 h4 h5 h6 (itdorTopicsZ_10 n) some := by kernel_rfl
def bodydorTopicsZ (a0 : Int) (a1 : Int) : Option iodorTopicsZ.Res := bif decide (a1 ≠ 0) then bif a1 != 0 then (FdorTopicsZ_10 ((0, ([], (0, ()))), ((a0, (a1, ())), ((), ())))).run fun y => match y with | .ret ((), ((x13, ()), (x14, x15, ()), (), ())) => (some (Out.ret ((x13, ()), ((), x14, x15, ()), ((), ()), ()))) else (FdorTopicsZ_10 ((0, ([], (0, ()))), ((a0, (a1, ())), ((), ())))).run fun y => match y with | .ret ((), ((x21, ()), (x22, x23, ()), (), ())) => (some (Out.ret ((x21, ()), ((), x22, x23, ()), ((), ()), ()))) else none
theorem rundorTopicsZ (a0 : Int) (a1 : Int) : Io.run tt hddorTopicsZ dr lpdorTopicsZ iodorTopicsZ Go.Proofs.Tryz.f82 (((), (), ()), ((), a0, a1, ()), ((), ()), ()) = bodydorTopicsZ a0 a1 := by kernel_rfl
theorem okdorTopicsZ : HcOk prog 82 (ioHd iodorTopicsZ FdorTopicsZ) := by
  refine fn_sound (n := 400) hm (cs := csdorTopicsZ) (.cons (or_sound okdI32Z okdI32) .nil) (lp := lpdorTopicsZ) (fn := Go.Proofs.Tryz.f82) (by kernel_rfl) (by kernel_rfl) (by kernel_rfl) iodorTopicsZ (.step (h0 := loHd lodorTopicsZ_10 FdorTopicsZ_10) (by kernel_rfl) (loop_sound (n := 400) hm (cs := csdorTopicsZ) (.cons (or_sound okdI32Z okdI32) .nil) (lp := lpdorTopicsZ) (fn := Go.Proofs.Tryz.f82) (.done (by kernel_rfl)) lodorTopicsZ_10 FdorTopicsZ_10 ?_) (.done (by kernel_rfl))) FdorTopicsZ ?_
  · rintro ⟨⟨(n : Int), (xs : List torTopic.den), (i : Int), ⟨⟩⟩, ⟨⟨(v : Int), (e : Int), ⟨⟩⟩, ⟨⟨⟩, ⟨⟩⟩⟩⟩ y hw hy
    obtain ⟨hg, hy⟩ := Tr.guard hy
    have hg : e ≠ 0 := of_decide_eq_true hg
    refine ⟨1, (sldorTopicsZ_10 0 n xs i v e).trans ?_⟩
    unfold stepdorTopicsZ_10
    rw [← hy]
    by_cases h : i < n
    · refine (bif_true (by simpa using h) _ _).trans ?_
      exact bif_false (by simpa using hg) _ _
    · exact bif_false (by simpa using h) _ _
  · rintro ⟨⟨⟨⟩, ⟨⟩, ⟨⟩⟩, ⟨⟨⟩, (v : Int), (e : Int), ⟨⟩⟩, ⟨⟨⟩, ⟨⟩⟩, ⟨⟩⟩ out hw ho
    obtain ⟨hg, ho⟩ := Tr.guard ho
    have hg : e ≠ 0 := of_decide_eq_true hg
    cases ho
    refine (rundorTopicsZ v e).trans ?_
    unfold bodydorTopicsZ
    have e1 : FdorTopicsZ_10 ((0, ([], (0, ()))), ((v, (e, ())), ((), ()))) = .ite true (.ret (.ret ((), ((([] : List torTopic.den), ()), ((v, (e, ())), ((), ())))))) .no := congrArg (fun c => Tr.ite c _ _) (decide_eq_true hg)
    refine (bif_true (by simpa using hg) _ _).trans ?_
    refine (bif_true (by simpa using hg) _ _).trans ?_
    rw [e1]
    rfl
def sporZ : torMsg.den := (0, (([] : List torTopic.den), ()))
def sporDB (v : Int) (b : List Int) (s : DeS) : torMsg.den × DeS :=
  (((spDHasN .i32 4 v 2 3 b s).1, ((sporTsD v b (spDHasN .i32 4 v 2 3 b s).2).1, ())), (sporTsD v b (spDHasN .i32 4 v 2 3 b s).2).2)
def sporD (v : Int) (b : List Int) : torMsg.den × Int := if 0 ≤ v ∧ v ≤ 3 ∧ (b.length : Int) ≤ 130048 then (if spDEnd b (sporDB v b (0, 0)).2 = 0 then ((sporDB v b (0, 0)).1, 0) else (sporZ, spDEnd b (sporDB v b (0, 0)).2)) else (sporZ, spNewD v)
abbrev iodorMsg : Io := ⟨[dI, dL], [], [], [.dat torMsg true false, dI], none⟩
def FdorMsg (d : iodorMsg.In) : Tr iodorMsg.Res := .ret (.ret (((sporD d.1.1 d.1.2.1).1, ((sporD d.1.1 d.1.2.1).2, ())), ()))
abbrev csdorMsg : List (Nat × Hc) := [(79, orHd newBad (ioHd iodNewZ FdNewZ) (ioHd iodNew FdNew)), (80, orHd deadB (ioHd iodHasZ FdHasZ) (ioHd iodHas FdHas)), (81, orHd deadB (ioHd iodI32Z FdI32Z) (ioHd iodI32 FdI32)), (82, orHd deadB (ioHd iodorTopicsZ FdorTopicsZ) (ioHd iodorTopics FdorTopics)), (90, orHd deadB (ioHd iodEndZ FdEndZ) (ioHd iodEnd FdEnd))]
def hddorMsg : Hd := hdT csdorMsg
def lpdorMsg : Lp := lpT []
def bodydorMsg (a0 : Int) (a1 : List Int) : Option iodorMsg.Res := bif !(decide (0 ≤ a0) && (decide (a0 ≤ 3) && decide ((↑a1.length : Int) ≤ 130048))) then bif decide (0 ≤ a0) && (decide (a0 ≤ 3) && decide ((↑a1.length : Int) ≤ 130048)) then none else bif decide (spNewD a0 ≠ 0) then bif decide (spNewD a0 ≠ 0) then bif decide (spNewD a0 ≠ 0) then bif spNewD a0 != 0 then some (Out.ret (((0, [], ()), spNewD a0, ()), ())) else some (Out.ret (((0, [], ()), 0, ()), ())) else none else none else none else bif decide (0 ≤ a0) && (decide (a0 ≤ 3) && decide ((↑a1.length : Int) ≤ 130048)) then bif spDHas a0 2 3 0 then bif spDok a1 0 then bif spDok a1 (spRd a1 0 4).snd.fst then bif spDEnd a1 (sporTsD a0 a1 ((spRd a1 0 4).snd.snd, (spRd a1 0 4).snd.fst)).snd != 0 then some (Out.ret (((0, [], ()), spDEnd a1 (sporTsD a0 a1 ((spRd a1 0 4).snd.snd, (spRd a1 0 4).snd.fst)).snd, ()), ())) else some (Out.ret (((IntKind.i32.wrap (spRd a1 0 4).fst, (sporTsD a0 a1 ((spRd a1 0 4).snd.snd, (spRd a1 0 4).snd.fst)).fst, ()), 0, ()), ())) else none else none else bif spDok a1 0 then bif spDEnd a1 (sporTsD a0 a1 (0, 0)).snd != 0 then some (Out.ret (((0, [], ()), spDEnd a1 (sporTsD a0 a1 (0, 0)).snd, ()), ())) else some (Out.ret (((0, (sporTsD a0 a1 (0, 0)).fst, ()), 0, ()), ())) else none else none
theorem rundorMsg (a0 : Int) (a1 : List Int) : Io.run tt hddorMsg dr lpdorMsg iodorMsg Go.Proofs.Tryz.f25 ((a0, a1, ()), ()) = bodydorMsg a0 a1 := by kernel_rfl
theorem okdorMsg : HcOk prog 25 (ioHd iodorMsg FdorMsg) := by
  refine fn_sound (n := 400) hm (cs := csdorMsg) (.cons (or_sound okdNewZ okdNew) (.cons (or_sound okdHasZ okdHas) (.cons (or_sound okdI32Z okdI32) (.cons (or_sound okdorTopicsZ okdorTopics) (.cons (or_sound okdEndZ okdEnd) .nil))))) (lp := lpdorMsg) (fn := Go.Proofs.Tryz.f25) (by kernel_rfl) (by kernel_rfl) (by kernel_rfl) iodorMsg (.done (by kernel_rfl)) FdorMsg ?_
  rintro ⟨⟨(v : Int), (b : List Int), ⟨⟩⟩, ⟨⟩⟩ out hw ho
  cases ho
  refine (rundorMsg v b).trans ?_
  unfold bodydorMsg
  show _ = some (Out.ret (((sporD v b).1, ((sporD v b).2, ())), ()))
  by_cases h : 0 ≤ v ∧ v ≤ 3 ∧ (b.length : Int) ≤ 130048
  · have hc : (decide (0 ≤ v) && (decide (v ≤ 3) && decide ((b.length : Int) ≤ 130048))) = true := by simpa using h
    refine (bif_false (by rw [hc]; rfl) _ _).trans ?_
    refine (bif_true hc _ _).trans ?_
    have hg : spDok b ((0, 0) : DeS).2 = true := by simp [spDok]; omega
    unfold sporD sporDB
    rw [if_pos h]
    show (bif spDHas v 2 3 ((0, 0) : DeS).1 then _ else _) = _
    cases h0 : spDHas v 2 3 ((0, 0) : DeS).1
    · have e0 : spDHasN .i32 4 v 2 3 b ((0, 0) : DeS) = (0, ((0, 0) : DeS)) := by unfold spDHasN; rw [if_neg (by rw [h0]; decide)]
      rw [e0]
      refine (bif_true hg _ _).trans ?_
      have gf1 : spDok b (sporTsD v b ((0, 0) : DeS)).2.2 = true := sporTsD_ok (s := ((0, 0) : DeS)) hg
      show _ = some (Out.ret (((if spDEnd b (sporTsD v b ((0, 0) : DeS)).2 = 0 then _ else _ : torMsg.den × Int).1, _), ()))
      by_cases hE : spDEnd b (sporTsD v b ((0, 0) : DeS)).2 = 0
      · rw [if_pos hE]
        exact bif_false (show (spDEnd b (sporTsD v b ((0, 0) : DeS)).2 != 0) = false by simpa using hE) _ _
      · rw [if_neg hE]
        exact bif_true (show (spDEnd b (sporTsD v b ((0, 0) : DeS)).2 != 0) = true by simpa using hE) _ _
    · have e0 : spDHasN .i32 4 v 2 3 b ((0, 0) : DeS) = spDn .i32 4 b ((0, 0) : DeS) := by unfold spDHasN; rw [if_pos h0]
      rw [e0]
      refine (bif_true hg _ _).trans ?_
      have g0 : spDok b (spDn .i32 4 b ((0, 0) : DeS)).2.2 = true := spDn_ok .i32 4 (s := ((0, 0) : DeS)) hg
      refine (bif_true g0 _ _).trans ?_
      have gt1 : spDok b (sporTsD v b (spDn .i32 4 b ((0, 0) : DeS)).2).2.2 = true := sporTsD_ok (s := (spDn .i32 4 b ((0, 0) : DeS)).2) g0
      show _ = some (Out.ret (((if spDEnd b (sporTsD v b (spDn .i32 4 b ((0, 0) : DeS)).2).2 = 0 then _ else _ : torMsg.den × Int).1, _), ()))
      by_cases hE : spDEnd b (sporTsD v b (spDn .i32 4 b ((0, 0) : DeS)).2).2 = 0
      · rw [if_pos hE]
        exact bif_false (show (spDEnd b (sporTsD v b (spDn .i32 4 b ((0, 0) : DeS)).2).2 != 0) = false by simpa using hE) _ _
      · rw [if_neg hE]
        exact bif_true (show (spDEnd b (sporTsD v b (spDn .i32 4 b ((0, 0) : DeS)).2).2 != 0) = true by simpa using hE) _ _
  · have hc : (decide (0 ≤ v) && (decide (v ≤ 3) && decide ((b.length : Int) ≤ 130048))) = false := by
      rw [Bool.eq_false_iff]
      intro h'
      simp only [Bool.and_eq_true, decide_eq_true_eq] at h'
      exact h h'
    have hn : spNewD v ≠ 0 := by unfold spNewD; split <;> decide
    unfold sporD
    rw [if_neg h]
    refine (bif_true (by rw [hc]; rfl) _ _).trans ?_
    refine (bif_false hc _ _).trans ?_
    repeat refine (bif_true (decide_eq_true hn) _ _).trans ?_
    exact bif_true (by simpa using hn) _ _
end
end Go.Proofs.YtjpeefegeobgfaaGreat.Sym
namespace Go.Proofs.YtjpeefegeobgfaaGreat.Sym
open Go
set_option linter.unusedSimpArgs false
set_option linter.unusedVariables false
noncomputable section
@[irreducible] def spNums (xs : List Int) : Nd := ndRows (xs.map (ndNum 4))
def spN8O (x : Nd) : Int := x.lab.2.1
def wNs (xs : List Int) : List Int × Int := spArrW (fun x => (spBE x 8, 0)) xs
theorem Wri.ns (xs : List Int) : Wri (wNs xs) (spNsE xs) := Wri.items fun x _ => Wri.put x 8
theorem Rd.ns {b : List Int} {xs : List Int} (hx : ∀ x ∈ xs, inR .i64 x) : Rd b xs (wNs xs) (spNsD b) :=
  (Rd.list fun x h => Rd.num (wrapBE_i64 (hx x h))).congr fun s => by unfold spNsD; rfl
abbrev lozNs_4 : Lo := ⟨⟨[.one (.hol (.sl 2 (Ty.int IntKind.i64))), .any, .one (.ptr 2 0), .one (.onl 98 tNode 7), .one (.hol (.int IntKind.i64)), .any, .any, .any, .any, .any, .any, .any, .any, .any, .any, .any, .any, .any, .any, .any, .any, .any], [none, none, some [.hol (.int IntKind.i64), .hol (.int IntKind.i64), .hol .bool, .onl 5 (Ty.int IntKind.u8) 1032, .onl 98 tNode 1034]]⟩, [(.exit 0, ⟨[.any, .any, .one (.ptr 2 0), .one (.onl 98 tNode 7), .any, .any, .any, .any, .any, .any, .any, .any, .any, .any, .any, .any, .any, .any, .any, .any, .any, .any], [none, none, some [.hol (.int IntKind.i64), .hol (.int IntKind.i64), .hol .bool, .onl 5 (Ty.int IntKind.u8) 1032, .onl 98 tNode 1034]]⟩)]⟩
-- FzNs_4 : lozNs_4.st.den → Tr (DenX lozNs_4.xs) | ((h1, (h2, (h3, ()))), ((h4, (h5, (h6, (h7, (h8, ()))))), ()))
def FzNs_4 (d : lozNs_4.st.den) : Tr (DenX lozNs_4.xs) :=
  .ite ((decide (d.1.2.1.length = 0) && decide (d.1.2.2.1 = 0)) && decide (d.1.1.length ≤ 4294967296)) (.ret (.ret ((), ((d.1.1.map (ndNum 4), ()), (d.2.1, ()))))) .no
end
end Go.Proofs.YtjpeefegeobgfaaGreat.Sym
namespace Go.Proofs.YtjpeefegeobgfaaGreat.Sym
open Go
set_option linter.unusedSimpArgs false
set_option linter.unusedVariables false
noncomputable section
def sporF (p : torPart.den) : Nd := ndRow [ndNum 3 p.1, ndNum 2 p.2.1, spNums p.2.2.1, ndNum 4 p.2.2.2.1, ndNum 4 p.2.2.2.2.1, ndNum 3 p.2.2.2.2.2.1]
def sporFT (t : torTopic.den) : Nd := ndRow [ndText t.1, ndRows (t.2.1.map sporF)]
def sporO (x : Nd) : torPart.den := (IntKind.i32.wrap (spAt x 0).lab.2.1, (IntKind.i16.wrap (spAt x 1).lab.2.1, ((spAt x 2).kids.map spN8O, ((spAt x 3).lab.2.1, ((spAt x 4).lab.2.1, (IntKind.i32.wrap (spAt x 5).lab.2.1, ()))))))
def sporOT (x : Nd) : torTopic.den := ((spAt x 0).lab.2.2.2.1, ((spAt x 1).kids.map sporO, ()))
def sporLenT (t : torTopic.den) : Bool := decide (t.2.1.length ≤ 4294967296) && t.2.1.all fun p => decide (p.2.2.1.length ≤ 4294967296)
def sporLens (l : List torTopic.den) : Bool := decide (l.length ≤ 4294967296) && l.all sporLenT
abbrev lozorFull_8 : Lo := ⟨⟨[.any, .one (.ptr 1 0), .one (.ptr 2 0), .one (.onl 98 tNode 7), .one (.hol (.int IntKind.i64)), .one (.onl 98 tNode 11), .one (.hol (.int IntKind.i64)), .any, .any, .any, .any, .any, .any, .any, .any, .any, .any, .any, .any, .any, .any, .any, .any, .any, .any, .any, .any, .any, .any, .any, .any, .any, .any, .any, .any, .any, .any, .any, .any, .any, .any, .any, .any, .any, .any, .any, .any, .any, .any, .any, .any, .any, .any, .any, .any, .any, .any, .any, .any, .any, .any, .any, .any, .any, .any, .any, .any, .any, .any, .any, .any, .any, .any, .any, .any, .any, .any, .any, .any, .any, .any, .any, .any, .any, .any, .any, .any], [none, some [.hol (.int IntKind.i32), .hol (.sl 53 torTopic)], some [.hol (.int IntKind.i64), .hol (.int IntKind.i64), .hol .bool, .onl 5 (Ty.int IntKind.u8) 1032, .onl 98 tNode 1034]]⟩, [(.exit 2, ⟨[.any, .one (.ptr 1 0), .one (.ptr 2 0), .one (.onl 98 tNode 7), .one (.hol (.int IntKind.i64)), .one (.onl 98 tNode 11), .any, .any, .any, .any, .any, .any, .any, .any, .any, .any, .any, .any, .any, .any, .any, .any, .any, .any, .any, .any, .any, .any, .any, .any, .any, .any, .any, .any, .any, .any, .any, .any, .any, .any, .any, .any, .any, .any, .any, .any, .any, .any, .any, .any, .any, .any, .any, .any, .any, .any, .any, .any, .any, .any, .any, .any, .any, .any, .any, .any, .any, .any, .any, .any, .any, .any, .any, .any, .any, .any, .any, .any, .any, .any, .any, .any, .any, .any, .any, .any, .any], [none, some [.hol (.int IntKind.i32), .hol (.sl 53 torTopic)], some [.hol (.int IntKind.i64), .hol (.int IntKind.i64), .hol .bool, .onl 5 (Ty.int IntKind.u8) 1032, .onl 98 tNode 1034]]⟩)]⟩
-- FzorFull_8 : lozorFull_8.st.den → Tr (DenX lozorFull_8.xs) | ((h11, (h12, (h13, (h14, ())))), ((h15, (h16, ())), ((h17, (h18, (h19, (h20, (h21, ()))))), ())))
abbrev lozorFull_4 : Lo := ⟨⟨[.any, .one (.ptr 1 0), .one (.ptr 2 0), .one (.onl 98 tNode 7), .one (.hol (.int IntKind.i64)), .any, .any, .any, .any, .any, .any, .any, .any, .any, .any, .any, .any, .any, .any, .any, .any, .any, .any, .any, .any, .any, .any, .any, .any, .any, .any, .any, .any, .any, .any, .any, .any, .any, .any, .any, .any, .any, .any, .any, .any, .any, .any, .any, .any, .any, .any, .any, .any, .any, .any, .any, .any, .any, .any, .any, .any, .any, .any, .any, .any, .any, .any, .any, .any, .any, .any, .any, .any, .any, .any, .any, .any, .any, .any, .any, .any, .any, .any, .any, .any, .any, .any], [none, some [.hol (.int IntKind.i32), .hol (.sl 53 torTopic)], some [.hol (.int IntKind.i64), .hol (.int IntKind.i64), .hol .bool, .onl 5 (Ty.int IntKind.u8) 1032, .onl 98 tNode 1034]]⟩, [(.exit 0, ⟨[.any, .one (.ptr 1 0), .one (.ptr 2 0), .one (.onl 98 tNode 7), .any, .any, .any, .any, .any, .any, .any, .any, .any, .any, .any, .any, .any, .any, .any, .any, .any, .any, .any, .any, .any, .any, .any, .any, .any, .any, .any, .any, .any, .any, .any, .any, .any, .any, .any, .any, .any, .any, .any, .any, .any, .any, .any, .any, .any, .any, .any, .any, .any, .any, .any, .any, .any, .any, .any, .any, .any, .any, .any, .any, .any, .any, .any, .any, .any, .any, .any, .any, .any, .any, .any, .any, .any, .any, .any, .any, .any, .any, .any, .any, .any, .any, .any], [none, some [.hol (.int IntKind.i32), .hol (.sl 53 torTopic)], some [.hol (.int IntKind.i64), .hol (.int IntKind.i64), .hol .bool, .onl 5 (Ty.int IntKind.u8) 1032, .onl 98 tNode 1034]]⟩)]⟩
-- FzorFull_4 : lozorFull_4.st.den → Tr (DenX lozorFull_4.xs) | ((h2, (h3, ())), ((h4, (h5, ())), ((h6, (h7, (h8, (h9, (h10, ()))))), ())))
def FzorFull_8 (d : lozorFull_8.st.den) : Tr (DenX lozorFull_8.xs) :=
  .ite ((decide ((0 : Int) ≤ d.1.2.1) && decide (d.1.2.1 < (d.2.1.2.1.length : Int))) && ((decide (d.1.2.2.1.length = 0) && decide (d.1.2.2.2.1 = 0)) && sporLenT (d.2.1.2.1.getD d.1.2.1.toNat torTopic.zero)))
    (.ret (.ret ((), ((d.1.1, (d.1.2.1, ((d.2.1.2.1.getD d.1.2.1.toNat torTopic.zero).2.1.map sporF, ()))), (d.2.1, (d.2.2.1, ())))))) .no
def FzorFull_4 (d : lozorFull_4.st.den) : Tr (DenX lozorFull_4.xs) :=
  .ite ((decide (d.1.1.length = 0) && decide (d.1.2.1 = 0)) && sporLens d.2.1.2.1)
    (.ret (.ret ((), ((d.2.1.2.1.map sporFT, ()), (d.2.1, (d.2.2.1, ())))))) .no
abbrev lozorOf_16 : Lo := ⟨⟨[.any, .any, .one (.ptr 2 0), .one (.ptr 3 0), .one (.hol (.sl 98 tNode)), .one (.hol (.int IntKind.i64)), .one (.ptr 6 0), .one (.hol (.sl 98 tNode)), .one (.hol (.int IntKind.i64)), .one (.ptr 9 0), .one (.ptr 10 0), .one (.hol (.sl 98 tNode)), .one (.hol (.int IntKind.i64)), .any, .any, .any, .any, .any, .any, .any, .any, .any, .any, .any, .any, .any, .any, .any, .any, .any, .any, .any, .any, .any, .any, .any, .any, .any, .any, .any, .any, .any, .any, .any, .any, .any, .any, .any, .any, .any, .any, .any, .any, .any, .any, .any, .any, .any, .any, .any, .any, .any, .any, .any, .any, .any, .any, .any, .any, .any, .any, .any, .any, .any, .any, .any, .any, .any, .any, .any, .any, .any, .any, .any, .any, .any, .any, .any, .any, .any, .any, .any, .any, .any, .any, .any, .any, .any, .any, .any, .any, .any, .any, .any, .any], [none, none, some [.hol (.int IntKind.i32), .onl 53 torTopic 1028], some [.hol (.int IntKind.i32), .onl 53 torTopic 1540], none, none, some [.hol .str, .onl 57 torPart 3076], none, none, some [.hol (.int IntKind.i64), .hol (.int IntKind.i64), .hol .bool, .hol (.sl 5 (Ty.int IntKind.u8)), .hol (.sl 98 tNode)], some [.hol (.int IntKind.i32), .hol (.int IntKind.i16), .onl 2 (Ty.int IntKind.i64) 5126, .hol (.int IntKind.i64), .hol (.int IntKind.i64), .hol (.int IntKind.i32)]]⟩, [(.exit 4, ⟨[.any, .any, .one (.ptr 2 0), .one (.ptr 3 0), .one (.hol (.sl 98 tNode)), .one (.hol (.int IntKind.i64)), .one (.ptr 6 0), .one (.hol (.sl 98 tNode)), .one (.hol (.int IntKind.i64)), .one (.ptr 9 0), .one (.ptr 10 0), .any, .any, .any, .any, .any, .any, .any, .any, .any, .any, .any, .any, .any, .any, .any, .any, .any, .any, .any, .any, .any, .any, .any, .any, .any, .any, .any, .any, .any, .any, .any, .any, .any, .any, .any, .any, .any, .any, .any, .any, .any, .any, .any, .any, .any, .any, .any, .any, .any, .any, .any, .any, .any, .any, .any, .any, .any, .any, .any, .any, .any, .any, .any, .any, .any, .any, .any, .any, .any, .any, .any, .any, .any, .any, .any, .any, .any, .any, .any, .any, .any, .any, .any, .any, .any, .any, .any, .any, .any, .any, .any, .any, .any, .any], [none, none, some [.hol (.int IntKind.i32), .onl 53 torTopic 1028], some [.hol (.int IntKind.i32), .onl 53 torTopic 1540], none, none, some [.hol .str, .onl 57 torPart 3076], none, none, some [.hol (.int IntKind.i64), .hol (.int IntKind.i64), .hol .bool, .hol (.sl 5 (Ty.int IntKind.u8)), .hol (.sl 98 tNode)], some [.hol (.int IntKind.i32), .hol (.int IntKind.i16), .onl 2 (Ty.int IntKind.i64) 5126, .hol (.int IntKind.i64), .hol (.int IntKind.i64), .hol (.int IntKind.i32)]]⟩)]⟩
-- FzorOf_16 : lozorOf_16.st.den → Tr (DenX lozorOf_16.xs) | ((h17, (h18, (h19, (h20, (h21, (h22, ())))))), ((h23, (h24, ())), ((h25, (h26, ())), ((h27, (h28, ())), ((h29, (h30, (h31, (h32, (h33, ()))))), ((h34, (h35, (h36, (h37, (h38, (h39, ())))))), ()))))))
abbrev lozorOf_10 : Lo := ⟨⟨[.any, .any, .one (.ptr 2 0), .one (.ptr 3 0), .one (.hol (.sl 98 tNode)), .one (.hol (.int IntKind.i64)), .one (.ptr 6 0), .one (.hol (.sl 98 tNode)), .one (.hol (.int IntKind.i64)), .any, .any, .any, .any, .any, .any, .any, .any, .any, .any, .any, .any, .any, .any, .any, .any, .any, .any, .any, .any, .any, .any, .any, .any, .any, .any, .any, .any, .any, .any, .any, .any, .any, .any, .any, .any, .any, .any, .any, .any, .any, .any, .any, .any, .any, .any, .any, .any, .any, .any, .any, .any, .any, .any, .any, .any, .any, .any, .any, .any, .any, .any, .any, .any, .any, .any, .any, .any, .any, .any, .any, .any, .any, .any, .any, .any, .any, .any, .any, .any, .any, .any, .any, .any, .any, .any, .any, .any, .any, .any, .any, .any, .any, .any, .any, .any], [none, none, some [.hol (.int IntKind.i32), .onl 53 torTopic 1028], some [.hol (.int IntKind.i32), .onl 53 torTopic 1540], none, none, some [.hol .str, .onl 57 torPart 3076]]⟩, [(.exit 2, ⟨[.any, .any, .one (.ptr 2 0), .one (.ptr 3 0), .one (.hol (.sl 98 tNode)), .one (.hol (.int IntKind.i64)), .one (.ptr 6 0), .any, .any, .any, .any, .any, .any, .any, .any, .any, .any, .any, .any, .any, .any, .any, .any, .any, .any, .any, .any, .any, .any, .any, .any, .any, .any, .any, .any, .any, .any, .any, .any, .any, .any, .any, .any, .any, .any, .any, .any, .any, .any, .any, .any, .any, .any, .any, .any, .any, .any, .any, .any, .any, .any, .any, .any, .any, .any, .any, .any, .any, .any, .any, .any, .any, .any, .any, .any, .any, .any, .any, .any, .any, .any, .any, .any, .any, .any, .any, .any, .any, .any, .any, .any, .any, .any, .any, .any, .any, .any, .any, .any, .any, .any, .any, .any, .any, .any], [none, none, some [.hol (.int IntKind.i32), .onl 53 torTopic 1028], some [.hol (.int IntKind.i32), .onl 53 torTopic 1540], none, none, some [.hol .str, .onl 57 torPart 3076]]⟩)]⟩
-- FzorOf_10 : lozorOf_10.st.den → Tr (DenX lozorOf_10.xs) | ((h7, (h8, (h9, (h10, ())))), ((h11, (h12, ())), ((h13, (h14, ())), ((h15, (h16, ())), ()))))
abbrev lozorOf_5 : Lo := ⟨⟨[.any, .any, .one (.ptr 2 0), .one (.ptr 3 0), .one (.hol (.sl 98 tNode)), .one (.hol (.int IntKind.i64)), .any, .any, .any, .any, .any, .any, .any, .any, .any, .any, .any, .any, .any, .any, .any, .any, .any, .any, .any, .any, .any, .any, .any, .any, .any, .any, .any, .any, .any, .any, .any, .any, .any, .any, .any, .any, .any, .any, .any, .any, .any, .any, .any, .any, .any, .any, .any, .any, .any, .any, .any, .any, .any, .any, .any, .any, .any, .any, .any, .any, .any, .any, .any, .any, .any, .any, .any, .any, .any, .any, .any, .any, .any, .any, .any, .any, .any, .any, .any, .any, .any, .any, .any, .any, .any, .any, .any, .any, .any, .any, .any, .any, .any, .any, .any, .any, .any, .any, .any], [none, none, some [.hol (.int IntKind.i32), .onl 53 torTopic 1028], some [.hol (.int IntKind.i32), .onl 53 torTopic 1540]]⟩, [(.exit 0, ⟨[.any, .any, .one (.ptr 2 0), .one (.ptr 3 0), .any, .any, .any, .any, .any, .any, .any, .any, .any, .any, .any, .any, .any, .any, .any, .any, .any, .any, .any, .any, .any, .any, .any, .any, .any, .any, .any, .any, .any, .any, .any, .any, .any, .any, .any, .any, .any, .any, .any, .any, .any, .any, .any, .any, .any, .any, .any, .any, .any, .any, .any, .any, .any, .any, .any, .any, .any, .any, .any, .any, .any, .any, .any, .any, .any, .any, .any, .any, .any, .any, .any, .any, .any, .any, .any, .any, .any, .any, .any, .any, .any, .any, .any, .any, .any, .any, .any, .any, .any, .any, .any, .any, .any, .any, .any, .any, .any, .any, .any, .any, .any], [none, none, some [.hol (.int IntKind.i32), .onl 53 torTopic 1028], some [.hol (.int IntKind.i32), .onl 53 torTopic 1540]]⟩)]⟩
-- FzorOf_5 : lozorOf_5.st.den → Tr (DenX lozorOf_5.xs) | ((h1, (h2, ())), ((h3, (h4, ())), ((h5, (h6, ())), ())))
def FzorOf_16 (d : lozorOf_16.st.den) : Tr (DenX lozorOf_16.xs) :=
  .ite ((decide (d.1.2.2.2.2.2.1 = 0) && decide (d.2.2.2.2.2.1.2.2.1.length = 0)) && decide (d.1.2.2.2.2.1.length ≤ 4294967296))
    (.ret (.ret ((), ((d.1.1, (d.1.2.1, (d.1.2.2.1, (d.1.2.2.2.1, ())))), (d.2.1, (d.2.2.1, (d.2.2.2.1, (d.2.2.2.2.1, ((d.2.2.2.2.2.1.1, (d.2.2.2.2.2.1.2.1, (d.1.2.2.2.2.1.map spN8O, d.2.2.2.2.2.1.2.2.2))), ()))))))))) .no
def FzorOf_10 (d : lozorOf_10.st.den) : Tr (DenX lozorOf_10.xs) :=
  .ite ((decide (d.1.2.2.2.1 = 0) && decide (d.2.2.2.1.2.1.length = 0)) && decide (spWts d.1.2.2.1 ≤ 4294967296))
    (.ret (.ret ((), ((d.1.1, (d.1.2.1, ())), (d.2.1, (d.2.2.1, ((d.2.2.2.1.1, (d.1.2.2.1.map sporO, ())), ()))))))) .no
def FzorOf_5 (d : lozorOf_5.st.den) : Tr (DenX lozorOf_5.xs) :=
  .ite ((decide (d.1.2.1 = 0) && decide (d.2.2.1.2.1.length = 0)) && decide (spWts d.1.1 ≤ 4294967296))
    (.ret (.ret ((), ((), (d.2.1, ((d.2.2.1.1, (d.1.1.map sporOT, ())), ())))))) .no
end
end Go.Proofs.YtjpeefegeobgfaaGreat.Sym
namespace Go.Proofs.YtjpeefegeobgfaaGreat.Sym
open Go
set_option linter.unusedSimpArgs false
set_option linter.unusedVariables false
noncomputable section
--@alias eorMsg leat/offsets.EncodeRep
end
end Go.Proofs.YtjpeefegeobgfaaGreat.Sym
namespace Go.Proofs.YtjpeefegeobgfaaGreat.Sym
open Go
set_option linter.unusedSimpArgs false
set_option linter.unusedVariables false
noncomputable section
abbrev iooalive : Io := ⟨[], [], [], [dB], none⟩
def Foalive (d : iooalive.In) : Tr iooalive.Res := .ret (.ret ((true, ()), ()))
abbrev csoalive : List (Nat × Hc) := [(16, ioHd iooqMsg FoqMsg), (21, ioHd ioorMsg ForMsg), (27, ioHd iodoqMsg FdoqMsg), (25, ioHd iodorMsg FdorMsg), (49, ioHd ioSame FSame)]
def hdoalive : Hd := hdT csoalive
def lpoalive : Lp := lpT []
def bodyoalive : Option iooalive.Res := bif (spoqD 1 [255, 255, 255, 255, 0, 0, 0, 0]).snd != 0 then some (Out.ret ((false, ()), ())) else bif (sporD 2 [0, 0, 0, 5, 0, 0, 0, 0]).snd != 0 then some (Out.ret ((false, ()), ())) else bif (spoqD 1 [255, 255, 255, 255, 0, 0, 0, 0]).fst.fst != -1 then some (Out.ret ((false, ()), ())) else bif (sporD 2 [0, 0, 0, 5, 0, 0, 0, 0]).fst.fst != 5 then some (Out.ret ((false, ()), ())) else some (Out.ret ((decide ([0, 0, 0, 5, 0, 0, 0, 0] = [0, 0, 0, 5, 0, 0, 0, 0]), ()), ()))
theorem runoalive : Io.run tt hdoalive dr lpoalive iooalive Go.Proofs.Tryz.f13 ((), ()) = bodyoalive  := by kernel_rfl
theorem okoalive : HcOk prog 13 (ioHd iooalive Foalive) := by
  refine fn_sound (n := 400) hm (cs := csoalive) (.cons okoqMsg (.cons okorMsg (.cons okdoqMsg (.cons okdorMsg (.cons okSame .nil))))) (lp := lpoalive) (fn := Go.Proofs.Tryz.f13) (by kernel_rfl) (by kernel_rfl) (by kernel_rfl) iooalive (.done (by kernel_rfl)) Foalive ?_
  rintro ⟨⟨⟩, ⟨⟩⟩ out hw ho
  cases ho
  refine runoalive.trans ?_
  kernel_rfl
end
end Go.Proofs.YtjpeefegeobgfaaGreat.Sym
namespace Go.Proofs.YtjpeefegeobgfaaGreat.Sym
open Go
set_option linter.unusedSimpArgs false
set_option linter.unusedVariables false
noncomputable section
abbrev iooAsks : Io := ⟨[dI, .dat toqMsg true false], [], [], [dB], none⟩
def spSmoq (m : toqMsg.den) : Bool := spoqLens m.2.2.1 && decide (8 * spWt (spoqFull m) ≤ 4294967296)
def FoAsks (d : iooAsks.In) : Tr iooAsks.Res := .ite (spSmoq d.1.2.1) (.ret (.ret ((true, ()), ()))) .no
abbrev csoAsks : List (Nat × Hc) := [(13, ioHd iooalive Foalive), (14, ioHd iozoqTwin FzoqTwin), (15, ioHd iozoqEnc FzoqEnc), (16, pureHd (ioHd ioeoqMsg FeoqMsg)), (17, ioHd iozoqAlike FzoqAlike), (18, apartHd)]
def hdoAsks : Hd := hdT csoAsks
def lpoAsks : Lp := lpT []
def bodyoAsks (a0 : Int) (a1 : Int) (a2 : Int) (a3 : List toqTopic.den) : Option iooAsks.Res := bif spoqLens a3 && decide (spWt (spoqFull (a1, a2, a3, ())) ≤ 4294967296) then bif spoqLens a3 && decide (8 * spWt (spoqFull (a1, a2, a3, ())) ≤ 4294967296) then bif (spoqW a0 (a1, a2, a3, ())).snd != (spoqW a0 (a1, a2, a3, ())).snd then some (Out.ret ((false, ()), ())) else bif (spoqW a0 (a1, a2, a3, ())).snd != (spoqW a0 (a1, a2, a3, ())).snd then some (Out.ret ((false, ()), ())) else bif spoqLens a3 && spoqLens a3 then bif !spEqT (a1, a2, a3, ()) (a1, a2, a3, ()) then some (Out.ret ((false, ()), ())) else bif decide ((spoqW a0 (a1, a2, a3, ())).fst.length ≤ 4294967000) && decide ((spoqW a0 (a1, a2, a3, ())).fst.length ≤ 4294967000) then bif decide ((spoqW a0 (a1, a2, a3, ())).fst = (spoqW a0 (a1, a2, a3, ())).fst) && decide ((spoqW a0 (a1, a2, a3, ())).fst = (spoqW a0 (a1, a2, a3, ())).fst) then bif spoqLens a3 && spoqLens a3 then some (Out.ret ((spEqT (a1, a2, a3, ()) (a1, a2, a3, ()), ()), ())) else none else some (Out.ret ((false, ()), ())) else none else none else none else none
theorem runoAsks (a0 : Int) (a1 : Int) (a2 : Int) (a3 : List toqTopic.den) : Io.run tt hdoAsks dr lpoAsks iooAsks Go.Proofs.Tryz.f3 ((a0, (a1, a2, a3, ()), ()), ()) = bodyoAsks a0 a1 a2 a3 := by kernel_rfl
theorem okoAsks : HcOk prog 3 (ioHd iooAsks FoAsks) := by
  refine fn_sound (n := 400) hm (cs := csoAsks) (.cons okoalive (.cons okzoqTwin (.cons okzoqEnc (.cons (pure_sound okeoqMsg) (.cons okzoqAlike (.cons okapart .nil)))))) (lp := lpoAsks) (fn := Go.Proofs.Tryz.f3) (by kernel_rfl) (by kernel_rfl) (by kernel_rfl) iooAsks (.done (by kernel_rfl)) FoAsks ?_
  rintro ⟨⟨(v : Int), ⟨re, lv, ts, ⟨⟩⟩, ⟨⟩⟩, ⟨⟩⟩ out hw ho
  obtain ⟨hg, ho⟩ := Tr.guard ho
  unfold spSmoq at hg
  simp only [Bool.and_eq_true, decide_eq_true_eq] at hg
  obtain ⟨h2, h3⟩ := hg
  cases ho
  refine (runoAsks v re lv ts).trans ?_
  unfold bodyoAsks
  have h2 : spoqLens ts = true := h2
  have h3 : 8 * spWt (spoqFull (re, (lv, (ts, ())))) ≤ 4294967296 := h3
  have h4 : decide (spWt (spoqFull (re, (lv, (ts, ())))) ≤ 4294967296) = true := by simp; omega
  have h5 : (spoqW v (re, (lv, (ts, ())))).1.length ≤ 130048 := by unfold spoqW; exact spEW_len _ _ _ _
  have h6 : decide ((spoqW v (re, (lv, (ts, ())))).1.length ≤ 4294967000) = true := by simp; omega
  have h7 : spEqT (re, (lv, (ts, ()))) (re, (lv, (ts, ()))) = true := spEqT_iff.2 rfl
  simp only [h2, h4, decide_eq_true h3, h6, h7, cond_true, cond_false, bne_self_eq_false, Bool.not_true, decide_true, Bool.and_self]
end
end Go.Proofs.YtjpeefegeobgfaaGreat.Sym
namespace Go.Proofs.YtjpeefegeobgfaaGreat.Sym
open Go
set_option linter.unusedSimpArgs false
set_option linter.unusedVariables false
noncomputable section
end
end Go.Proofs.YtjpeefegeobgfaaGreat.Sym
namespace Go.Proofs.YtjpeefegeobgfaaGreat.Sym
open Go
set_option linter.unusedSimpArgs false
set_option linter.unusedVariables false
noncomputable section
end
end Go.Proofs.YtjpeefegeobgfaaGreat.Sym
namespace Go.Proofs.YtjpeefegeobgfaaGreat.Sym
open Go
set_option linter.unusedSimpArgs false
set_option linter.unusedVariables false
noncomputable section
theorem wts_map {T : Ty} {F : T.den → Nd} {c : Nat} : ∀ {l : List T.den}, (∀ x ∈ l, spWt (F x) ≤ c * dsz T x) → spWts (l.map F) ≤ c * (l.map (dsz T)).sum
  | [], _ => by rw [List.map_nil, spWts_nil]; exact Nat.zero_le _
  | x :: l, h => by
    have h1 := h x (by simp)
    have h2 := wts_map (l := l) fun y hy => h y (List.mem_cons_of_mem _ hy)
    rw [List.map_cons, spWts_cons, List.map_cons, List.sum_cons, Nat.mul_add]
    omega
theorem sum_mem {T : Ty} {x : T.den} : ∀ {l : List T.den}, x ∈ l → dsz T x ≤ (l.map (dsz T)).sum
  | y :: l, h => by
    rw [List.map_cons, List.sum_cons]
    rcases List.mem_cons.1 h with rfl | h
    · omega
    · have := sum_mem (l := l) h; omega
theorem sum_len {T : Ty} (hT : ∀ x : T.den, 1 ≤ dsz T x) : ∀ l : List T.den, l.length ≤ (l.map (dsz T)).sum
  | [] => Nat.zero_le _
  | x :: l => by
    have := sum_len hT l
    have := hT x
    rw [List.map_cons, List.sum_cons, List.length_cons]; omega
theorem spWt_num (k n : Int) : spWt (ndNum k n) = 1 := by rw [spWt_eq]; show 1 + 0 + spWts [] = 1; rw [spWts_nil]
theorem spWt_text (x : List Int) : spWt (ndText x) = 1 + x.length := by rw [spWt_eq]; show 1 + x.length + spWts [] = _; rw [spWts_nil]; rfl
theorem spWt_row (l : List Nd) : spWt (ndRow l) = 1 + spWts l := by rw [spWt_eq]; show 1 + 0 + spWts l = _; omega
theorem spWt_rows (l : List Nd) : spWt (ndRows l) = 1 + spWts l := by rw [spWt_eq]; show 1 + 0 + spWts l = _; omega
end
end Go.Proofs.YtjpeefegeobgfaaGreat.Sym
namespace Go.Proofs.YtjpeefegeobgfaaGreat.Sym
open Go
set_option linter.unusedSimpArgs false
set_option linter.unusedVariables false
noncomputable section
theorem dsz_oqP (p : toqPart.den) : dsz toqPart p = 4 := rfl
theorem dsz_oqT (t : toqTopic.den) : dsz toqTopic t = (t.1.length + 1) + (((t.2.1.map (dsz toqPart)).sum + 1) + 0) := rfl
theorem dsz_oqM (m : toqMsg.den) : dsz toqMsg m = 1 + (1 + (((m.2.2.1.map (dsz toqTopic)).sum + 1) + (0))) := rfl
theorem wt_oqP (p : toqPart.den) : spWt (spoqF p) ≤ 3 * dsz toqPart p := by
  rw [dsz_oqP]
  show spWt (ndRow [ndNum 3 p.1, ndNum 3 p.2.1, ndNum 4 p.2.2.1, ndNum 3 p.2.2.2.1]) ≤ _
  rw [spWt_row, spWts_cons, spWts_cons, spWts_cons, spWts_cons, spWts_nil, spWt_num, spWt_num, spWt_num, spWt_num]
  omega
theorem wt_oqT (t : toqTopic.den) : spWt (spoqFT t) ≤ 3 * dsz toqTopic t := by
  have h := wts_map (T := toqPart) (F := spoqF) (c := 3) (l := t.2.1) fun p _ => wt_oqP p
  rw [dsz_oqT]
  show spWt (ndRow [ndText t.1, ndRows (t.2.1.map spoqF)]) ≤ _
  rw [spWt_row, spWts_cons, spWts_cons, spWts_nil, spWt_text, spWt_rows]
  omega
theorem oq_bulk {m : toqMsg.den} (h : dsz toqMsg m ≤ 1048576) : spSmoq m = true := by
  have h1 := wts_map (T := toqTopic) (F := spoqFT) (c := 3) (l := m.2.2.1) fun t _ => wt_oqT t
  have h2 := sum_len (T := toqTopic) (fun t => by rw [dsz_oqT]; omega) m.2.2.1
  rw [dsz_oqM] at h
  have hp : ∀ t ∈ m.2.2.1, t.2.1.length ≤ 1048576 := fun t htm => by
    have a1 := sum_mem (T := toqTopic) htm
    rw [dsz_oqT] at a1
    have a2 := sum_len (T := toqPart) (fun p => by rw [dsz_oqP]; omega) t.2.1
    omega
  unfold spSmoq
  simp only [Bool.and_eq_true, decide_eq_true_eq]
  refine ⟨?_, ?_⟩
  · unfold spoqLens
    simp only [Bool.and_eq_true, decide_eq_true_eq]
    refine ⟨by omega, List.all_eq_true.2 fun t htm => decide_eq_true ?_⟩
    have := hp t htm
    omega
  · unfold spoqFull
    show 8 * spWt (ndRow [ndNum 3 m.1, ndNum 1 m.2.1, ndRows (m.2.2.1.map spoqFT)]) ≤ _
    rw [spWt_row, spWts_cons, spWts_cons, spWts_cons, spWts_nil, spWt_num, spWt_num, spWt_rows]
    omega
end
end Go.Proofs.YtjpeefegeobgfaaGreat.Sym
