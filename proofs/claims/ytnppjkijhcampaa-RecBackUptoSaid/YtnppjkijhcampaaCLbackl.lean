/- leatlaw07.RecBack. -/
import Derived.Test.YtnppjkijhcampaaCRput
import Derived.Test.YtnppjkijhcampaaCLback

namespace Go.Proofs.Ytnppjkijhcampaa.Sym
open Go
set_option linter.unusedSimpArgs false
set_option linter.unusedVariables false
noncomputable section

theorem spCheck_zero {r : RowD} (h : spCheck r = 0) : spShape r = 0 ∧ (spBody r).length ≤ 16384 := by
  unfold spCheck at h
  by_cases h1 : spShape r = 0
  · rw [if_neg (notNe h1)] at h
    refine ⟨h1, ?_⟩
    by_cases h2 : 16384 < ((spBody r).length : Int)
    · rw [if_pos h2] at h; cases h
    · omega
  · rw [if_pos h1] at h
    exact absurd h h1
theorem spPutR_zero {r : RowD} (h : spCheck r = 0) : spPutR r = (spDig (spZig (spBody r).length) ++ spBody r, 0) := by unfold spPutR; rw [if_pos h]
theorem spRec_at {r : RowD} (hr : RowOk r) (hc : spCheck r = 0) {b : List Int} {p : Int} (H : Has b p (spPutR r).1) : spRec b p = (r, p + (spPutR r).1.length, 0) := by
  obtain ⟨hs, hl⟩ := spCheck_zero hc
  rw [spPutR_zero hc] at H ⊢
  have hn := spNum_at (by omega) (by omega) H.left
  have H2 := H.right
  have hle := H2.len
  unfold spRec
  rw [hn]
  simp only
  rw [if_neg (by simp), if_neg (by omega), if_neg (by omega), if_neg (by omega), Int.toNat_natCast, H2.take, spRow_at hr hs hl]
  simp only [List.length_append]
  rw [if_neg (by simp)]
  simp only [Prod.mk.injEq, and_true, true_and]
  push_cast
  omega
theorem spHi_len2 : ∀ (k n : Nat) (u : Int), 0 ≤ u → u < 128 ^ (k + 1) → (spHi n u).length ≤ k
  | k, 0, u, _, _ => by simp [spHi]
  | 0, n + 1, u, h0, h => by
    have h : u < 128 := h
    rw [spHi, if_neg (by omega)]
    simp
  | k + 1, n + 1, u, h0, h => by
    rw [Int.pow_succ] at h
    have := spHi_len2 k n (u / 128) (by omega) (Int.ediv_lt_of_lt_mul (by omega) h)
    rw [spHi]
    split
    · simp; omega
    · simp
/-- A row that is cut isn't read. -/
theorem spRec_cut {r : RowD} (hc : spCheck r = 0) (k : Nat) (hk : k < (spPutR r).1.length) : spRec ((spPutR r).1.take k) 0 = (spNone, 0, 1) := by
  obtain ⟨hs, hl⟩ := spCheck_zero hc
  rw [spPutR_zero hc] at hk ⊢
  simp only at hk ⊢
  generalize spBody r = B at *
  have hz : 0 ≤ spZig B.length ∧ spZig B.length < 128 ^ (2 + 1) := by
    have : (128 : Int) ^ (2 + 1) = 2097152 := by decide
    unfold spZig
    split <;> omega
  have hz2 : spZig B.length < 2097152 := hz.2
  have hDl : (spDig (spZig B.length)).length ≤ 3 := by
    have := spHi_len2 2 10 _ hz.1 hz.2
    simp only [spDig, List.length_append, List.length_cons, List.length_nil]
    omega
  obtain ⟨c1, c2, c3⟩ := spDig_can hz.1 (by omega)
  generalize hD : spDig (spZig B.length) = D at *
  rw [List.length_append] at hk
  by_cases h : k < D.length
  · have e : (D ++ B).take k = D.take k := by rw [List.take_append_of_le_length (by omega)]
    rw [e]
    have hr := spRd_cut 5 15 (D.take k) (D.drop k) 0 (by intro h0; have := congrArg List.length h0; simp at this; omega) ⟨false, by rw [List.take_append_drop]; exact c1⟩ (by rw [List.take_append_drop]; omega)
    have hg : spGet 5 15 (D.take k) 0 = (0, 0, 1) := by
      unfold spGet
      rw [if_neg (by omega)]
      simp only [Int.toNat_zero, List.drop_zero]
      rw [hr, if_neg (by simp)]
    unfold spRec spNum
    rw [hg]
    rfl
  · have e : (D ++ B).take k = D ++ B.take (k - D.length) := by
      rw [List.take_append, List.take_of_length_le (by omega)]
    rw [e]
    have H : Has (D ++ B.take (k - D.length)) 0 (spDig (spZig B.length)) := ⟨by omega, by omega, B.take (k - D.length), by rw [hD]; simp⟩
    have hn := spNum_at (by omega) (by omega) H
    rw [hD] at hn
    unfold spRec
    rw [hn]
    simp only
    rw [if_neg (by simp), if_neg (by omega), if_neg (by omega), if_pos (by simp only [List.length_append, List.length_take]; omega)]

/-! ### leat/leatlaw07.RecBack -/
noncomputable abbrev iolBack : Io := ⟨[dL, dRow, dL], [], [], [dB], none⟩
noncomputable def FlBack (d : iolBack.In) : Tr iolBack.Res := .ite (spSmallR d.1.2.1 && (spRoom d.1.2.1 && decide (d.1.1.length + d.1.2.2.1.length ≤ 4294900000))) (.ret (.ret ((true, ()), ()))) .no
noncomputable abbrev cslBack : List (Nat × Hc) := [(9, ioHd iolalive Flalive), (16, ioHd iorTwin FrTwin), (15, ioHd iokPut FkPut), (17, ioHd iorCheck FrCheck), (18, ioHd ioCat FCat), (11, ioHd iokGet FkGet), (13, ioHd iorAlike FrAlike), (19, ioHd ioPiece FPiece)]
noncomputable def hdlBack : Hd := hdT cslBack
noncomputable def lplBack : Lp := lpT []

noncomputable def bodylBack (a0 : List Int) (a1 : Int) (a2 : Int) (a3 : Bool) (a4 : List Int) (a5 : Bool) (a6 : List Int) (a7 : List tHead.den) (a8 : List Int) : Option iolBack.Res := bif spSmallR (a1, a2, (a3, a4, ()), (a5, a6, ()), a7, ()) then bif spRoom (a1, a2, (a3, a4, ()), (a5, a6, ()), a7, ()) then bif spRoom (a1, a2, (a3, a4, ()), (a5, a6, ()), a7, ()) then bif spCheck (a1, a2, (a3, a4, ()), (a5, a6, ()), a7, ()) != 0 then bif (spPutR (a1, a2, (a3, a4, ()), (a5, a6, ()), a7, ())).snd != 0 then some (Out.ret (((↑(spPutR (a1, a2, (a3, a4, ()), (a5, a6, ()), a7, ())).fst.length : Int) == 0, ()), ())) else some (Out.ret ((false, ()), ())) else bif (spPutR (a1, a2, (a3, a4, ()), (a5, a6, ()), a7, ())).snd != 0 then some (Out.ret ((false, ()), ())) else bif decide (a0.length + (spPutR (a1, a2, (a3, a4, ()), (a5, a6, ()), a7, ())).fst.length ≤ 4294967296) then bif decide (List.length (a0 ++ (spPutR (a1, a2, (a3, a4, ()), (a5, a6, ()), a7, ())).fst) + a8.length ≤ 4294967296) then bif (spRec (a0 ++ (spPutR (a1, a2, (a3, a4, ()), (a5, a6, ()), a7, ())).fst ++ a8) (↑a0.length : Int)).snd.snd != 0 then some (Out.ret ((false, ()), ())) else bif (spRec (a0 ++ (spPutR (a1, a2, (a3, a4, ()), (a5, a6, ()), a7, ())).fst ++ a8) (↑a0.length : Int)).snd.fst != IntKind.i64.wrap ((↑a0.length : Int) + (↑(spPutR (a1, a2, (a3, a4, ()), (a5, a6, ()), a7, ())).fst.length : Int)) then some (Out.ret ((false, ()), ())) else bif !spEqR ((spRec (a0 ++ (spPutR (a1, a2, (a3, a4, ()), (a5, a6, ()), a7, ())).fst ++ a8) (↑a0.length : Int)).fst.fst, (spRec (a0 ++ (spPutR (a1, a2, (a3, a4, ()), (a5, a6, ()), a7, ())).fst ++ a8) (↑a0.length : Int)).fst.snd.fst, ((spRec (a0 ++ (spPutR (a1, a2, (a3, a4, ()), (a5, a6, ()), a7, ())).fst ++ a8) (↑a0.length : Int)).fst.snd.snd.fst.fst, (spRec (a0 ++ (spPutR (a1, a2, (a3, a4, ()), (a5, a6, ()), a7, ())).fst ++ a8) (↑a0.length : Int)).fst.snd.snd.fst.snd.fst, ()), ((spRec (a0 ++ (spPutR (a1, a2, (a3, a4, ()), (a5, a6, ()), a7, ())).fst ++ a8) (↑a0.length : Int)).fst.snd.snd.snd.fst.fst, (spRec (a0 ++ (spPutR (a1, a2, (a3, a4, ()), (a5, a6, ()), a7, ())).fst ++ a8) (↑a0.length : Int)).fst.snd.snd.snd.fst.snd.fst, ()), (spRec (a0 ++ (spPutR (a1, a2, (a3, a4, ()), (a5, a6, ()), a7, ())).fst ++ a8) (↑a0.length : Int)).fst.snd.snd.snd.snd.fst, ()) (a1, a2, (a3, a4, ()), (a5, a6, ()), a7, ()) then some (Out.ret ((false, ()), ())) else bif (↑(spPutR (a1, a2, (a3, a4, ()), (a5, a6, ()), a7, ())).fst.length : Int) == 0 then some (Out.ret ((false, ()), ())) else bif decide ((↑(spPutR (a1, a2, (a3, a4, ()), (a5, a6, ()), a7, ())).fst.length : Int) ≠ 0) then bif decide ((spPutR (a1, a2, (a3, a4, ()), (a5, a6, ()), a7, ())).fst.length ≤ 4294967296) then bif (spRec (List.drop (Int.toNat 0) (List.take (IntKind.i64.wrap ((↑a8.length : Int).tmod (↑(spPutR (a1, a2, (a3, a4, ()), (a5, a6, ()), a7, ())).fst.length : Int))).toNat (spPutR (a1, a2, (a3, a4, ()), (a5, a6, ()), a7, ())).fst)) 0).snd.snd == 1 then bif (spRec (List.drop (Int.toNat 0) (List.take (IntKind.i64.wrap ((↑a8.length : Int).tmod (↑(spPutR (a1, a2, (a3, a4, ()), (a5, a6, ()), a7, ())).fst.length : Int))).toNat (spPutR (a1, a2, (a3, a4, ()), (a5, a6, ()), a7, ())).fst)) 0).snd.fst == 0 then some (Out.ret ((spEqR ((spRec (List.drop (Int.toNat 0) (List.take (IntKind.i64.wrap ((↑a8.length : Int).tmod (↑(spPutR (a1, a2, (a3, a4, ()), (a5, a6, ()), a7, ())).fst.length : Int))).toNat (spPutR (a1, a2, (a3, a4, ()), (a5, a6, ()), a7, ())).fst)) 0).fst.fst, (spRec (List.drop (Int.toNat 0) (List.take (IntKind.i64.wrap ((↑a8.length : Int).tmod (↑(spPutR (a1, a2, (a3, a4, ()), (a5, a6, ()), a7, ())).fst.length : Int))).toNat (spPutR (a1, a2, (a3, a4, ()), (a5, a6, ()), a7, ())).fst)) 0).fst.snd.fst, ((spRec (List.drop (Int.toNat 0) (List.take (IntKind.i64.wrap ((↑a8.length : Int).tmod (↑(spPutR (a1, a2, (a3, a4, ()), (a5, a6, ()), a7, ())).fst.length : Int))).toNat (spPutR (a1, a2, (a3, a4, ()), (a5, a6, ()), a7, ())).fst)) 0).fst.snd.snd.fst.fst, (spRec (List.drop (Int.toNat 0) (List.take (IntKind.i64.wrap ((↑a8.length : Int).tmod (↑(spPutR (a1, a2, (a3, a4, ()), (a5, a6, ()), a7, ())).fst.length : Int))).toNat (spPutR (a1, a2, (a3, a4, ()), (a5, a6, ()), a7, ())).fst)) 0).fst.snd.snd.fst.snd.fst, ()), ((spRec (List.drop (Int.toNat 0) (List.take (IntKind.i64.wrap ((↑a8.length : Int).tmod (↑(spPutR (a1, a2, (a3, a4, ()), (a5, a6, ()), a7, ())).fst.length : Int))).toNat (spPutR (a1, a2, (a3, a4, ()), (a5, a6, ()), a7, ())).fst)) 0).fst.snd.snd.snd.fst.fst, (spRec (List.drop (Int.toNat 0) (List.take (IntKind.i64.wrap ((↑a8.length : Int).tmod (↑(spPutR (a1, a2, (a3, a4, ()), (a5, a6, ()), a7, ())).fst.length : Int))).toNat (spPutR (a1, a2, (a3, a4, ()), (a5, a6, ()), a7, ())).fst)) 0).fst.snd.snd.snd.fst.snd.fst, ()), (spRec (List.drop (Int.toNat 0) (List.take (IntKind.i64.wrap ((↑a8.length : Int).tmod (↑(spPutR (a1, a2, (a3, a4, ()), (a5, a6, ()), a7, ())).fst.length : Int))).toNat (spPutR (a1, a2, (a3, a4, ()), (a5, a6, ()), a7, ())).fst)) 0).fst.snd.snd.snd.snd.fst, ()) (0, 0, (false, [], ()), (false, [], ()), [], ()), ()), ())) else some (Out.ret ((false, ()), ())) else some (Out.ret ((false, ()), ())) else none else none else none else none else none else none else none
theorem runlBack (a0 : List Int) (a1 : Int) (a2 : Int) (a3 : Bool) (a4 : List Int) (a5 : Bool) (a6 : List Int) (a7 : List tHead.den) (a8 : List Int) : Io.run tt hdlBack dr lplBack iolBack Go.Proofs.Try.f4 ((a0, (a1, a2, (a3, a4, ()), (a5, a6, ()), a7, ()), a8, ()), ()) = bodylBack a0 a1 a2 a3 a4 a5 a6 a7 a8 := by kernel_rfl
theorem oklBack : HcOk prog 4 (ioHd iolBack FlBack) := by
  refine fn_sound (n := 400) hm (cs := cslBack) (.cons oklalive (.cons okrTwin (.cons okkPut (.cons okrCheck (.cons okCat (.cons okkGet (.cons okrAlike (.cons okPiece .nil)))))))) (lp := lplBack) (fn := Go.Proofs.Try.f4) (by kernel_rfl) (by kernel_rfl) (by kernel_rfl) iolBack (.done (by kernel_rfl)) FlBack ?_
  rintro ⟨⟨(h : List Int), ⟨(a0 : Int), (a1 : Int), ⟨(a2 : Bool), (a3 : List Int), ⟨⟩⟩, ⟨(a4 : Bool), (a5 : List Int), ⟨⟩⟩, (a6 : List Head), ⟨⟩⟩, (t : List Int), ⟨⟩⟩, ⟨⟩⟩ out hw ho
  obtain ⟨hg, ho⟩ := Tr.guard ho
  cases ho
  simp only [Bool.and_eq_true, decide_eq_true_eq] at hg
  obtain ⟨hg1, hg2, hg3⟩ := hg
  have hg1 : spSmallR (a0, a1, (a2, a3, ()), (a4, a5, ()), a6, ()) = true := hg1
  have hg2 : spRoom (a0, a1, (a2, a3, ()), (a4, a5, ()), a6, ()) = true := hg2
  have hg3 : h.length + t.length ≤ 4294900000 := hg3
  refine (runlBack h a0 a1 a2 a3 a4 a5 a6 t).trans ?_
  have hr : RowOk (a0, a1, (a2, a3, ()), (a4, a5, ()), a6, ()) := ⟨inR_i64.1 hw.1.2.1.1, inR_i32.1 hw.1.2.1.2.1⟩
  unfold bodylBack
  generalize ((a0, a1, (a2, a3, ()), (a4, a5, ()), a6, ()) : RowD) = r at *
  generalize hP : (spPutR r).1 = P
  change (bif spSmallR r then bif spRoom r then bif spRoom r then bif spCheck r != 0 then bif (spPutR r).2 != 0 then some (Out.ret (((P.length : Int) == 0, ()), ())) else _ else bif (spPutR r).2 != 0 then _ else
    bif decide (h.length + P.length ≤ 4294967296) then bif decide ((h ++ P).length + t.length ≤ 4294967296) then bif (spRec (h ++ P ++ t) (h.length : Int)).2.2 != 0 then _ else bif (spRec (h ++ P ++ t) (h.length : Int)).2.1 != IntKind.i64.wrap ((h.length : Int) + (P.length : Int)) then _ else
      bif !spEqR (spRec (h ++ P ++ t) (h.length : Int)).1 r then _ else bif (P.length : Int) == 0 then _ else bif decide ((P.length : Int) ≠ 0) then bif decide (P.length ≤ 4294967296) then
        bif (spRec (List.drop (Int.toNat 0) (List.take (IntKind.i64.wrap ((t.length : Int).tmod (P.length : Int))).toNat P)) 0).2.2 == 1 then bif (spRec (List.drop (Int.toNat 0) (List.take (IntKind.i64.wrap ((t.length : Int).tmod (P.length : Int))).toNat P)) 0).2.1 == 0 then
          some (Out.ret ((spEqR (spRec (List.drop (Int.toNat 0) (List.take (IntKind.i64.wrap ((t.length : Int).tmod (P.length : Int))).toNat P)) 0).1 spNone, ()), ())) else _ else _ else none else none else none else none else none else none else none) = _
  rw [hg1, hg2, bif_true rfl, bif_true rfl, bif_true rfl]
  by_cases hc : spCheck r = 0
  rotate_left
  · have e : spPutR r = ([], spCheck r) := by unfold spPutR; rw [if_neg hc]
    rw [e] at hP ⊢
    subst hP
    rw [bif_true (by simpa using hc), bif_true (by simpa using hc)]
    rfl
  have hP2 : (spPutR r).2 = 0 := by rw [spPutR_zero hc]
  have hPl : P.length ≤ 20000 ∧ 0 < P.length := by
    rw [← hP, spPutR_zero hc]
    have h1 := spDig_len (spZig (spBody r).length)
    have h2 := (spCheck_zero hc).2
    have h3 : 0 < (spDig (spZig (spBody r).length)).length := by simp [spDig]
    simp only [List.length_append]
    omega
  have e1 := spRec_at hr hc (b := h ++ P ++ t) (p := (h.length : Int)) ⟨by omega, by simp; omega, t, by rw [hP]; simp⟩
  rw [hP] at e1
  have hq : (t.length : Int).tmod (P.length : Int) = ((t.length % P.length : Nat) : Int) := by
    rw [Int.tmod_eq_emod_of_nonneg (by omega)]
    rfl
  have hlt : t.length % P.length < P.length := Nat.mod_lt _ hPl.2
  have hwr : IntKind.i64.wrap ((t.length : Int).tmod (P.length : Int)) = ((t.length % P.length : Nat) : Int) := by rw [hq, wrap_i64 (by omega) (by omega)]
  have e2 := spRec_cut hc (t.length % P.length) (by rw [hP]; exact hlt)
  rw [hP] at e2
  have e3 : List.drop (Int.toNat 0) (List.take (IntKind.i64.wrap ((t.length : Int).tmod (P.length : Int))).toNat P) = P.take (t.length % P.length) := by rw [hwr, Int.toNat_natCast]; rfl
  have s1 : spEqR r r = true := spEqR_iff.2 rfl
  have s2 : spEqR spNone spNone = true := spEqR_iff.2 rfl
  rw [e3, e1, e2, hP2, wrap_i64 (n := (h.length : Int) + (P.length : Int)) (by omega) (by omega), bif_false (by simpa using hc), bif_false (by rfl), bif_true (by simp; omega), bif_true (by simp; omega), bif_false (by rfl), bif_false (by simp)]
  simp only [s1, s2]
  rw [bif_false (by rfl), bif_false (c := ((P.length : Int) == 0)) (beq_false_of_ne (by omega)), bif_true (c := decide ((P.length : Int) ≠ 0)) (decide_eq_true (by omega)), bif_true (c := decide (P.length ≤ 4294967296)) (decide_eq_true (by omega))]
  rfl

end
end Go.Proofs.Ytnppjkijhcampaa.Sym
