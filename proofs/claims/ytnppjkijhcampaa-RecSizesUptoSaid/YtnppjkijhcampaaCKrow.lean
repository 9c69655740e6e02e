/- rec's reader: row. -/
import Derived.Test.YtnppjkijhcampaaCKrd

namespace Go.Proofs.Ytnppjkijhcampaa.Sym
open Go
set_option linter.unusedSimpArgs false
set_option linter.unusedVariables false
noncomputable section

/-! ### (*leat/rec.reader).row -/
noncomputable abbrev iokrow : Io := ⟨[.ptr 0 0], [oRd], [], [dRow], kFault⟩
noncomputable def spEnd (b : List Int) : Int := (spHeads b (spTake b (spTake b (spNum b (spGet 10 1 b 1).2.1).2.1 (-1)).2.1 (-1)).2.1).2.1
noncomputable def Fkrow (d : iokrow.In) : Tr iokrow.Res :=
  .ite (decide (d.2.1.2.1 = (0 : Int))) (.ite (decide ((spRow d.2.1.1).2 = 0)) (.ret (.ret (((spRow d.2.1.1).1, ()), ((d.2.1.1, (spEnd d.2.1.1, ())), ())))) (.ret (.pan ((spRow d.2.1.1).2, ())))) .no
noncomputable abbrev cskrow : List (Nat × Hc) := [(49, ioHd ioknumber Fknumber), (51, ioHd iokcount Fkcount), (47, ioHd ioktake Fktake), (48, ioHd iopGet FpGet), (50, ioHd iokblob Fkblob), (52, ioHd iokheader Fkheader)]
noncomputable def hdkrow : Hd := hdT cskrow
noncomputable abbrev lokrow_19 : Lo := ⟨⟨[.one (.ptr 0 0), .any, .one (.ptr 3 0), .one (.ptr 4 0), .any, .any, .any, .any, .any, .any, .any, .any, .any, .any, .any, .any, .any, .any, .any, .any, .any, .any, .any, .any, .any, .any, .any, .any, .any, .any, .any, .any, .any, .any, .any, .any, .any, .any, .any, .any, .any, .any, .any, .any, .any, .any, .any, .any, .any, .any, .any, .any, .any, .any, .any, .any, .any, .any, .any, .any, .any, .one (.hol (.int IntKind.i64)), .one (.hol (.int IntKind.i64)), .any, .any, .any, .any, .any, .any, .any, .any, .any, .any, .any, .any, .any, .any, .any, .any, .any, .any, .any, .any, .any, .any], [some [.hol (.sl 5 (Ty.int IntKind.u8)), .hol (.int IntKind.i64)], none, none, some [.hol (.int IntKind.i64), .hol (.int IntKind.i32), .hol .bool, .onl 5 (Ty.int IntKind.u8) 1544, .hol .bool, .onl 5 (Ty.int IntKind.u8) 1548, .onl 49 (Ty.str.prod ((Ty.bool.prod ((Ty.sl 5 (Ty.int IntKind.u8)).prod Ty.unit)).prod Ty.unit)) 1550], some [.hol (.int IntKind.i64), .hol (.int IntKind.i32), .hol .bool, .hol (.sl 5 (Ty.int IntKind.u8)), .hol .bool, .hol (.sl 5 (Ty.int IntKind.u8)), .onl 49 (Ty.str.prod ((Ty.bool.prod ((Ty.sl 5 (Ty.int IntKind.u8)).prod Ty.unit)).prod Ty.unit)) 2062]]⟩, [(.panic 60 ((Ty.int IntKind.i64).prod Ty.unit), ⟨[.any, .any, .any, .any, .any, .any, .any, .any, .any, .any, .any, .any, .any, .any, .any, .any, .any, .any, .any, .any, .any, .any, .any, .any, .any, .any, .any, .any, .any, .any, .any, .any, .any, .any, .any, .any, .any, .any, .any, .any, .any, .any, .any, .any, .any, .any, .any, .any, .any, .any, .any, .any, .any, .any, .any, .any, .any, .any, .any, .any, .any, .any, .any, .any, .any, .any, .any, .any, .any, .any, .any, .any, .any, .any, .any, .any, .any, .any, .any, .any, .any, .any, .any, .any, .any], []⟩), (.exit 0, ⟨[.one (.ptr 0 0), .any, .one (.ptr 3 0), .one (.ptr 4 0), .any, .any, .any, .any, .any, .any, .any, .any, .any, .any, .any, .any, .any, .any, .any, .any, .any, .any, .any, .any, .any, .any, .any, .any, .any, .any, .any, .any, .any, .any, .any, .any, .any, .any, .any, .any, .any, .any, .any, .any, .any, .any, .any, .any, .any, .any, .any, .any, .any, .any, .any, .any, .any, .any, .any, .any, .any, .any, .any, .any, .any, .any, .any, .any, .any, .any, .any, .any, .any, .any, .any, .any, .any, .any, .any, .any, .any, .any, .any, .any, .any], [some [.hol (.sl 5 (Ty.int IntKind.u8)), .hol (.int IntKind.i64)], none, none, some [.hol (.int IntKind.i64), .hol (.int IntKind.i32), .hol .bool, .onl 5 (Ty.int IntKind.u8) 1544, .hol .bool, .onl 5 (Ty.int IntKind.u8) 1548, .onl 49 (Ty.str.prod ((Ty.bool.prod ((Ty.sl 5 (Ty.int IntKind.u8)).prod Ty.unit)).prod Ty.unit)) 1550], some [.hol (.int IntKind.i64), .hol (.int IntKind.i32), .hol .bool, .hol (.sl 5 (Ty.int IntKind.u8)), .hol .bool, .hol (.sl 5 (Ty.int IntKind.u8)), .onl 49 (Ty.str.prod ((Ty.bool.prod ((Ty.sl 5 (Ty.int IntKind.u8)).prod Ty.unit)).prod Ty.unit)) 2062]]⟩)]⟩
-- Fkrow_19 : lokrow_19.st.den → Tr (DenX lokrow_19.xs) | ((h2, (h3, ())), ((h4, (h5, ())), ((h6, (h7, (h8, (h9, (h10, (h11, (h12, ()))))))), ((h13, (h14, (h15, (h16, (h17, (h18, (h19, ()))))))), ()))))
noncomputable def Fkrow_19 (d : lokrow_19.st.den) : Tr (DenX lokrow_19.xs) :=
  .ite (decide (d.1.2.1 = (0 : Int)) && (decide ((0 : Int) ≤ d.1.1) && (decide (d.1.1 ≤ (16 : Int)) && decide (d.2.2.2.1.2.2.2.2.2.2.1 = ([] : List Head)))))
    (.ite (decide ((spHeadsN d.2.1.1 (d.1.1 : Int).toNat [] d.2.1.2.1).2.2 = (0 : Int)))
      (.ret (.pan (.ret ((), ((), ((d.2.1.1, ((spHeadsN d.2.1.1 (d.1.1 : Int).toNat [] d.2.1.2.1).2.1, ())), (d.2.2.1, ((d.2.2.2.1.1, (d.2.2.2.1.2.1, (d.2.2.2.1.2.2.1, (d.2.2.2.1.2.2.2.1, (d.2.2.2.1.2.2.2.2.1, (d.2.2.2.1.2.2.2.2.2.1, ((spHeadsN d.2.1.1 (d.1.1 : Int).toNat [] d.2.1.2.1).1, ()))))))), ()))))))))
      (.ret (.ret (((spHeadsN d.2.1.1 (d.1.1 : Int).toNat [] d.2.1.2.1).2.2, ()), ((), ()))))) .no
noncomputable def lpkrow : Lp := lpT [(19, loHd lokrow_19 Fkrow_19)]
noncomputable def stepkrow_19 {R : Type} (h2 : Int) (h3 : Int) (h4 : List Int) (h5 : Int) (h6 : Int) (h7 : Int) (h8 : Bool) (h9 : List Int) (h10 : Bool) (h11 : List Int) (h12 : List (Ty.str.prod ((Ty.bool.prod ((Ty.sl 5 (Ty.int IntKind.u8)).prod Ty.unit)).prod Ty.unit)).den) (h13 : Int) (h14 : Int) (h15 : Bool) (h16 : List Int) (h17 : Bool) (h18 : List Int) (h19 : List (Ty.str.prod ((Ty.bool.prod ((Ty.sl 5 (Ty.int IntKind.u8)).prod Ty.unit)).prod Ty.unit)).den) (next : Int → Int → List Int → Int → Int → Int → Bool → List Int → Bool → List Int → List (Ty.str.prod ((Ty.bool.prod ((Ty.sl 5 (Ty.int IntKind.u8)).prod Ty.unit)).prod Ty.unit)).den → Int → Int → Bool → List Int → Bool → List Int → List (Ty.str.prod ((Ty.bool.prod ((Ty.sl 5 (Ty.int IntKind.u8)).prod Ty.unit)).prod Ty.unit)).den → Option R) (out : DenX lokrow_19.xs → Option R) : Option R := bif decide (h3 < h2) then bif decide ((spHead h4 h5).snd.snd = 0) then bif !([[Sh.dat (Ty.sl 5 (Ty.int IntKind.u8)) false false, Sh.dat (Ty.int IntKind.i64) false false]].length + 3 == 1 + 69 || false) && true && decide (h19.length + [((spHead h4 h5).fst.fst, ((spHead h4 h5).fst.snd.fst.fst, (spHead h4 h5).fst.snd.fst.snd.fst, ()), ())].length ≤ 4294967296) then next (h2) (IntKind.i64.wrap (h3 + 1)) (h4) ((spHead h4 h5).snd.fst) (h6) (h7) (h8) (h9) (h10) (h11) (h12) (h13) (h14) (h15) (h16) (h17) (h18) (h19 ++ [((spHead h4 h5).fst.fst, ((spHead h4 h5).fst.snd.fst.fst, (spHead h4 h5).fst.snd.fst.snd.fst, ()), ())]) else none else out (.ret (((spHead h4 h5).snd.snd, ()), ((), ()))) else out (.pan (.ret ((), ((), ((h4, (h5, ())), ((h6, (h7, (h8, (h9, (h10, (h11, (h12, ()))))))), ((h13, (h14, (h15, (h16, (h17, (h18, (h19, ()))))))), ())))))))
noncomputable def itkrow_19 (n : Nat) (h2 : Int) (h3 : Int) (h4 : List Int) (h5 : Int) (h6 : Int) (h7 : Int) (h8 : Bool) (h9 : List Int) (h10 : Bool) (h11 : List Int) (h12 : List (Ty.str.prod ((Ty.bool.prod ((Ty.sl 5 (Ty.int IntKind.u8)).prod Ty.unit)).prod Ty.unit)).den) (h13 : Int) (h14 : Int) (h15 : Bool) (h16 : List Int) (h17 : Bool) (h18 : List Int) (h19 : List (Ty.str.prod ((Ty.bool.prod ((Ty.sl 5 (Ty.int IntKind.u8)).prod Ty.unit)).prod Ty.unit)).den) : Option (DenX lokrow_19.xs) := lpN tt hdkrow dr lpkrow 1 Go.Proofs.Try.f31 (topL Go.Proofs.Try.f31 0) n (lokrow_19.st.mk' ((h2, (h3, ())), ((h4, (h5, ())), ((h6, (h7, (h8, (h9, (h10, (h11, (h12, ()))))))), ((h13, (h14, (h15, (h16, (h17, (h18, (h19, ()))))))), ()))))) (decX lokrow_19.xs)
theorem slkrow_19 (n : Nat) (h2 : Int) (h3 : Int) (h4 : List Int) (h5 : Int) (h6 : Int) (h7 : Int) (h8 : Bool) (h9 : List Int) (h10 : Bool) (h11 : List Int) (h12 : List (Ty.str.prod ((Ty.bool.prod ((Ty.sl 5 (Ty.int IntKind.u8)).prod Ty.unit)).prod Ty.unit)).den) (h13 : Int) (h14 : Int) (h15 : Bool) (h16 : List Int) (h17 : Bool) (h18 : List Int) (h19 : List (Ty.str.prod ((Ty.bool.prod ((Ty.sl 5 (Ty.int IntKind.u8)).prod Ty.unit)).prod Ty.unit)).den) : itkrow_19 (n + 1) h2 h3 h4 h5 h6 h7 h8 h9 h10 h11 h12 h13 h14 h15 h16 h17 h18 h19 = stepkrow_19 h2 h3 h4 h5 h6 h7 h8 h9 h10 h11 h12 h13 h14 h15 h16 h17 h18 h19 (itkrow_19 n) some := by kernel_rfl
theorem spHeadsN_succ (b : List Int) (m : Nat) (o : List Head) (p : Int) : spHeadsN b (m + 1) o p = if (spHead b p).2.2 ≠ 0 then ([], 0, (spHead b p).2.2) else spHeadsN b m (o ++ [(spHead b p).1]) (spHead b p).2.1 := by
  rw [spHeadsN]
  by_cases a1 : (spTake b p 0).2.2 = 0
  · rw [if_neg (by simpa using a1)]
    by_cases a2 : (spUtf (spTake b p 0).1.2.1).2 = false
    · have e : spHead b p = (([], (false, [], ()), ()), 0, 6) := by unfold spHead; rw [if_neg (by simpa using a1), if_pos a2]
      rw [if_pos a2, e]
      rfl
    · have e : spHead b p = (((spTake b p 0).1.2.1, (spTake b (spTake b p 0).2.1 (-1)).1, ()), (spTake b (spTake b p 0).2.1 (-1)).2.1, (spTake b (spTake b p 0).2.1 (-1)).2.2) := by unfold spHead; rw [if_neg (by simpa using a1), if_neg a2]
      rw [if_neg a2, e]
  · have e : spHead b p = (([], (false, [], ()), ()), 0, (spTake b p 0).2.2) := by unfold spHead; rw [if_pos a1]
    rw [if_pos a1, e, if_pos a1]
theorem notNe {α : Type} {a b : α} (h : a = b) : ¬ a ≠ b := fun h' => h' h
theorem loopkrow (b : List Int) (n : Int) (hn : 0 ≤ n) (hn' : n ≤ 16) (h6 h7 : Int) (h8 : Bool) (h9 : List Int) (h10 : Bool) (h11 : List Int) (h12 : List Head) (h13 h14 : Int) (h15 : Bool) (h16 : List Int) (h17 : Bool) (h18 : List Int) : ∀ (k m : Nat) (p : Int) (o : List Head) (i : Int), i + m = n → 0 ≤ i → m < k → o.length = i.toNat →
    itkrow_19 k n i b p h6 h7 h8 h9 h10 h11 h12 h13 h14 h15 h16 h17 h18 o = if (spHeadsN b m o p).2.2 = 0 then some (.pan (.ret ((), ((), ((b, ((spHeadsN b m o p).2.1, ())), ((h6, (h7, (h8, (h9, (h10, (h11, (h12, ()))))))), ((h13, (h14, (h15, (h16, (h17, (h18, ((spHeadsN b m o p).1, ()))))))), ()))))))) else some (.ret (((spHeadsN b m o p).2.2, ()), ((), ()))) := by
  intro k
  induction k with
  | zero => intro m p o i h1 h2 h3; omega
  | succ k ih =>
    intro m p o i h1 h2 h3 h4
    rw [slkrow_19]
    unfold stepkrow_19
    cases m with
    | zero =>
      rw [bif_false (by simp; omega), if_pos (by rfl)]
      rfl
    | succ m =>
      rw [bif_true (by simp; omega), spHeadsN_succ]
      by_cases a1 : (spHead b p).2.2 = 0
      · rw [bif_true (by simpa using a1), if_neg (notNe a1)]
        have hg : decide (o.length + [((spHead b p).fst.fst, ((spHead b p).fst.snd.fst.fst, (spHead b p).fst.snd.fst.snd.fst, ()), ())].length ≤ 4294967296) = true := decide_eq_true (show o.length + 1 ≤ 4294967296 by omega)
        rw [bif_true (by rw [Bool.and_eq_true]; exact ⟨rfl, hg⟩), wrap_i64 (n := i + 1) (by omega) (by omega)]
        exact ih m _ _ (i + 1) (by omega) (by omega) (by omega) (by simp; omega)
      · rw [bif_false (by simpa using a1), if_pos a1, if_neg a1]
noncomputable def bodykrow (a0 : List Int) (a1 : Int) : Option iokrow.Res := bif decide (0 ≤ 1) && (decide (1 ≤ 4294967296) && (decide (0 ≤ a1) && decide (a1 ≤ (↑a0.length : Int)))) then bif decide ((↑a0.length : Int) - a1 < 1) then some (Out.pan (1, ())) else bif decide (0 ≤ 0) && decide (0 < (↑(List.take (Int.toNat 1) (List.drop a1.toNat a0)).length : Int)) then bif (List.take (Int.toNat 1) (List.drop a1.toNat a0)).getD (Int.toNat 0) 0 != 0 then some (Out.pan (71, ())) else bif (spGet 10 1 a0 (a1 + 1)).snd.snd != 0 then some (Out.pan ((spGet 10 1 a0 (a1 + 1)).snd.snd, ())) else bif decide ((spGet 5 15 a0 (spGet 10 1 a0 (a1 + 1)).snd.fst).snd.snd = 0) then bif decide (IntKind.i32.wrap (spZag (spGet 5 15 a0 (spGet 10 1 a0 (a1 + 1)).snd.fst).fst) < 0) then some (Out.pan (72, ())) else bif decide ((spTake a0 (spGet 5 15 a0 (spGet 10 1 a0 (a1 + 1)).snd.fst).snd.fst (-1)).snd.snd = 0) then bif decide ((spTake a0 (spTake a0 (spGet 5 15 a0 (spGet 10 1 a0 (a1 + 1)).snd.fst).snd.fst (-1)).snd.fst (-1)).snd.snd = 0) then bif decide ((spGet 5 15 a0 (spTake a0 (spTake a0 (spGet 5 15 a0 (spGet 10 1 a0 (a1 + 1)).snd.fst).snd.fst (-1)).snd.fst (-1)).snd.fst).snd.snd = 0) then bif decide (IntKind.i32.wrap (spZag (spGet 5 15 a0 (spTake a0 (spTake a0 (spGet 5 15 a0 (spGet 10 1 a0 (a1 + 1)).snd.fst).snd.fst (-1)).snd.fst (-1)).snd.fst).fst) < 0) then some (Out.pan (5, ())) else bif decide (16 < IntKind.i32.wrap (spZag (spGet 5 15 a0 (spTake a0 (spTake a0 (spGet 5 15 a0 (spGet 10 1 a0 (a1 + 1)).snd.fst).snd.fst (-1)).snd.fst (-1)).snd.fst).fst)) then some (Out.pan (9, ())) else (Fkrow_19 ((IntKind.i32.wrap (spZag (spGet 5 15 a0 (spTake a0 (spTake a0 (spGet 5 15 a0 (spGet 10 1 a0 (a1 + 1)).snd.fst).snd.fst (-1)).snd.fst (-1)).snd.fst).fst), (0, ())), ((a0, ((spGet 5 15 a0 (spTake a0 (spTake a0 (spGet 5 15 a0 (spGet 10 1 a0 (a1 + 1)).snd.fst).snd.fst (-1)).snd.fst (-1)).snd.fst).snd.fst, ())), ((0, (0, (false, ([], (false, ([], ([], ()))))))), ((spZag (spGet 10 1 a0 (a1 + 1)).fst, (IntKind.i32.wrap (IntKind.i32.wrap (spZag (spGet 5 15 a0 (spGet 10 1 a0 (a1 + 1)).snd.fst).fst)), ((spTake a0 (spGet 5 15 a0 (spGet 10 1 a0 (a1 + 1)).snd.fst).snd.fst (-1)).fst.fst, ((spTake a0 (spGet 5 15 a0 (spGet 10 1 a0 (a1 + 1)).snd.fst).snd.fst (-1)).fst.snd.fst, ((spTake a0 (spTake a0 (spGet 5 15 a0 (spGet 10 1 a0 (a1 + 1)).snd.fst).snd.fst (-1)).snd.fst (-1)).fst.fst, ((spTake a0 (spTake a0 (spGet 5 15 a0 (spGet 10 1 a0 (a1 + 1)).snd.fst).snd.fst (-1)).snd.fst (-1)).fst.snd.fst, ([], ()))))))), ()))))).run fun y => match y with | .ret ((x54, ()), ((), ())) => (some (Out.pan (x54, ()))) | .pan (.ret ((), ((), (x55, x56, ()), (x57, x58, x59, x60, x61, x62, x63, ()), (x64, x65, x66, x67, x68, x69, x70, ()), ()))) => (bif decide (x56 < (↑x55.length : Int)) then some (Out.pan (2, ())) else some (Out.ret (((x64, x65, (x66, x67, ()), (x68, x69, ()), x70, ()), ()), (x55, x56, ()), ()))) else some (Out.pan ((spGet 5 15 a0 (spTake a0 (spTake a0 (spGet 5 15 a0 (spGet 10 1 a0 (a1 + 1)).snd.fst).snd.fst (-1)).snd.fst (-1)).snd.fst).snd.snd, ())) else some (Out.pan ((spTake a0 (spTake a0 (spGet 5 15 a0 (spGet 10 1 a0 (a1 + 1)).snd.fst).snd.fst (-1)).snd.fst (-1)).snd.snd, ())) else some (Out.pan ((spTake a0 (spGet 5 15 a0 (spGet 10 1 a0 (a1 + 1)).snd.fst).snd.fst (-1)).snd.snd, ())) else some (Out.pan ((spGet 5 15 a0 (spGet 10 1 a0 (a1 + 1)).snd.fst).snd.snd, ())) else none else none
theorem runkrow (a0 : List Int) (a1 : Int) : Io.run tt hdkrow dr lpkrow iokrow Go.Proofs.Try.f31 (((), ()), (a0, a1, ()), ()) = bodykrow a0 a1 := by kernel_rfl
theorem okkrow : HcOk prog 31 (ioHd iokrow Fkrow) := by
  have hcs : HcsOk prog cskrow := .cons okknumber (.cons okkcount (.cons okktake (.cons okpGet (.cons okkblob (.cons okkheader .nil)))))
  refine fn_sound (n := 400) hm (cs := cskrow) hcs (lp := lpkrow) (fn := Go.Proofs.Try.f31) (by kernel_rfl) (by kernel_rfl) (by kernel_rfl) iokrow
    (.step (h0 := loHd lokrow_19 Fkrow_19) (by kernel_rfl) (loop_sound (n := 400) hm (cs := cskrow) hcs (lp := lpkrow) (fn := Go.Proofs.Try.f31) (.done (by kernel_rfl)) lokrow_19 Fkrow_19 ?_) (.done (by kernel_rfl))) Fkrow ?_
  · rintro ⟨⟨(n : Int), (i : Int), ⟨⟩⟩, ⟨(b : List Int), (p : Int), ⟨⟩⟩, ⟨(h6 : Int), (h7 : Int), (h8 : Bool), (h9 : List Int), (h10 : Bool), (h11 : List Int), (h12 : List Head), ⟨⟩⟩, ⟨(h13 : Int), (h14 : Int), (h15 : Bool), (h16 : List Int), (h17 : Bool), (h18 : List Int), (o : List Head), ⟨⟩⟩, ⟨⟩⟩ y hw hy
    obtain ⟨hg, hy⟩ := Tr.guard hy
    simp only [Bool.and_eq_true, decide_eq_true_eq] at hg
    obtain ⟨hi, h0, hs, ho⟩ := hg
    have hi : i = 0 := hi
    have h0 : 0 ≤ n := h0
    have hs : n ≤ 16 := hs
    have ho : o = [] := ho
    subst hi ho
    refine ⟨n.toNat + 1, (loopkrow b n h0 hs h6 h7 h8 h9 h10 h11 h12 h13 h14 h15 h16 h17 h18 _ n.toNat p [] 0 (by omega) (by omega) (by omega) rfl).trans ?_⟩
    rw [← hy]
    simp only [Tr.val_ite, decide_eq_true_eq, Tr.val_ret]
  · rintro ⟨⟨⟨⟩, ⟨⟩⟩, ⟨⟨(b : List Int), (p : Int), ⟨⟩⟩, ⟨⟩⟩⟩ out hw ho
    obtain ⟨hg, ho⟩ := Tr.guard ho
    have hg : p = 0 := by simpa using hg
    subst hg
    refine (runkrow b 0).trans ?_
    rw [← ho]
    simp only [Tr.val_ite, Tr.val_ret, decide_eq_true_eq]
    unfold bodykrow
    rw [bif_true (by simp)]
    by_cases h0 : b.length = 0
    · have e : spRow b = (spNone, 1) := by unfold spRow; rw [if_pos h0]
      rw [e, bif_true (by simp; omega)]
      rfl
    rw [bif_false (by simp; omega)]
    obtain ⟨c, l, rfl⟩ : ∃ c l, b = c :: l := by
      cases b with
      | nil => exact absurd rfl h0
      | cons c l => exact ⟨c, l, rfl⟩
    rw [bif_true (by simp)]
    by_cases h1 : c = 0
    rotate_left
    · have e : spRow (c :: l) = (spNone, 71) := by unfold spRow; rw [if_neg h0, if_pos (by simpa using h1)]
      rw [e, bif_true (by simpa using h1)]
      rfl
    have h1' : (c :: l).getD 0 0 = 0 := h1
    rw [bif_false (by simpa using h1)]
    generalize hb : c :: l = b at *
    have hz : (0 : Int) + 1 = 1 := rfl
    rw [hz]
    by_cases h2 : (spGet 10 1 b 1).2.2 = 0
    rotate_left
    · have e : spRow b = (spNone, (spGet 10 1 b 1).2.2) := by unfold spRow; rw [if_neg h0, if_neg (by simpa using h1'), if_pos h2]
      rw [e, bif_true (by simpa using h2), if_neg h2]
    rw [bif_false (by simpa using h2)]
    have hr := @spNum_range b
    have hE : spEnd b = (spHeads b (spTake b (spTake b (spNum b (spGet 10 1 b 1).2.1).2.1 (-1)).2.1 (-1)).2.1).2.1 := rfl
    generalize hq1 : (spGet 10 1 b 1).2.1 = q1 at *
    have eR : spRow b = if (spNum b q1).2.2 ≠ 0 then (spNone, (spNum b q1).2.2) else if (spNum b q1).1 < 0 then (spNone, 72) else if (spTake b (spNum b q1).2.1 (-1)).2.2 ≠ 0 then (spNone, (spTake b (spNum b q1).2.1 (-1)).2.2) else
      if (spTake b (spTake b (spNum b q1).2.1 (-1)).2.1 (-1)).2.2 ≠ 0 then (spNone, (spTake b (spTake b (spNum b q1).2.1 (-1)).2.1 (-1)).2.2) else
      if (spHeads b (spTake b (spTake b (spNum b q1).2.1 (-1)).2.1 (-1)).2.1).2.2 ≠ 0 then (spNone, (spHeads b (spTake b (spTake b (spNum b q1).2.1 (-1)).2.1 (-1)).2.1).2.2) else
      if (spHeads b (spTake b (spTake b (spNum b q1).2.1 (-1)).2.1 (-1)).2.1).2.1 < (b.length : Int) then (spNone, 2) else
      ((spZag (spGet 10 1 b 1).1, (spNum b q1).1, (spTake b (spNum b q1).2.1 (-1)).1, (spTake b (spTake b (spNum b q1).2.1 (-1)).2.1 (-1)).1, (spHeads b (spTake b (spTake b (spNum b q1).2.1 (-1)).2.1 (-1)).2.1).1, ()), 0) := by
      unfold spRow; rw [if_neg h0, if_neg (by simpa using h1'), if_neg (by simpa using h2), hq1]
    have hn : ∀ p, IntKind.i32.wrap (spZag (spGet 5 15 b p).fst) = (spNum b p).1 := fun _ => rfl
    have hq : ∀ p, (spGet 5 15 b p).2.1 = (spNum b p).2.1 := fun _ => rfl
    have he : ∀ p, (spGet 5 15 b p).2.2 = (spNum b p).2.2 := fun _ => rfl
    have hw32 : IntKind.i32.wrap (spNum b q1).1 = (spNum b q1).1 := wrap_id (k := .i32) (inR_wrap _ _)
    simp only [hn, hq, he]
    rw [eR, hE, hw32]
    by_cases c1 : (spNum b q1).2.2 = 0
    rotate_left
    · rw [bif_false (by simpa using c1), if_pos c1, if_neg c1]
    rw [bif_true (by simpa using c1), if_neg (notNe c1)]
    by_cases c2 : (spNum b q1).1 < 0
    · rw [bif_true (by simpa using c2), if_pos c2]; rfl
    rw [bif_false (by simpa using c2), if_neg c2]
    generalize hT1 : spTake b (spNum b q1).2.1 (-1) = T1
    by_cases c3 : T1.2.2 = 0
    rotate_left
    · rw [bif_false (by simpa using c3), if_pos c3, if_neg c3]
    rw [bif_true (by simpa using c3), if_neg (notNe c3)]
    generalize hT2 : spTake b T1.2.1 (-1) = T2
    by_cases c4 : T2.2.2 = 0
    rotate_left
    · rw [bif_false (by simpa using c4), if_pos c4, if_neg c4]
    rw [bif_true (by simpa using c4), if_neg (notNe c4)]
    by_cases c5 : (spNum b T2.2.1).2.2 = 0
    rotate_left
    · have eH : spHeads b T2.2.1 = ([], 0, (spNum b T2.2.1).2.2) := by unfold spHeads; rw [if_pos c5]
      rw [bif_false (by simpa using c5), eH, if_pos c5, if_neg c5]
    rw [bif_true (by simpa using c5)]
    by_cases c6 : (spNum b T2.2.1).1 < 0
    · have eH : spHeads b T2.2.1 = ([], 0, 5) := by unfold spHeads; rw [if_neg (notNe c5), if_pos c6]
      rw [bif_true (by simpa using c6), eH]; rfl
    rw [bif_false (by simpa using c6)]
    by_cases c7 : 16 < (spNum b T2.2.1).1
    · have eH : spHeads b T2.2.1 = ([], 0, 9) := by unfold spHeads; rw [if_neg (notNe c5), if_neg c6, if_pos c7]
      rw [bif_true (by simpa using c7), eH]; rfl
    have eH : spHeads b T2.2.1 = spHeadsN b (spNum b T2.2.1).1.toNat [] (spNum b T2.2.1).2.1 := by unfold spHeads; rw [if_neg (notNe c5), if_neg c6, if_neg c7]
    rw [bif_false (by simpa using c7), eH]
    unfold Fkrow_19
    simp only [Tr.run_ite, Tr.run_ret]
    have hgd : (decide True && (decide ((0 : Int) ≤ (spNum b T2.2.1).1) && (decide ((spNum b T2.2.1).1 ≤ (16 : Int)) && decide True))) = true := by
      simp only [Bool.and_eq_true, decide_eq_true_eq]
      exact ⟨trivial, by omega, by omega, trivial⟩
    rw [if_pos hgd]
    generalize spHeadsN b (spNum b T2.2.1).1.toNat [] (spNum b T2.2.1).2.1 = r
    by_cases c8 : r.2.2 = 0
    · rw [if_pos (decide_eq_true c8), if_neg (notNe c8)]
      by_cases c9 : r.2.1 < (b.length : Int)
      · simp only [c9, decide_true, cond_true, if_true]
        rfl
      · simp only [c9, decide_false, cond_false, if_false]
        rfl
    · rw [if_neg (by simpa using c8), if_pos c8, if_neg c8]


end
end Go.Proofs.Ytnppjkijhcampaa.Sym
