/- rec.Get. -/
import Derived.Test.YtnppjkijhcampaaCKrow

namespace Go.Proofs.Ytnppjkijhcampaa.Sym
open Go
set_option linter.unusedSimpArgs false
set_option linter.unusedVariables false
noncomputable section

/-! ### leat/rec.Get -/
--@defer leat/rec.Get$1 11
noncomputable abbrev iokGet : Io := ⟨[dL, dI], [], [], [dRow, dI, dI], none⟩
noncomputable def FkGet (d : iokGet.In) : Tr iokGet.Res := .ret (.ret (((spRec d.1.1 d.1.2.1).1, (spRec d.1.1 d.1.2.1).2.1, (spRec d.1.1 d.1.2.1).2.2, ()), ()))
noncomputable abbrev cskGet : List (Nat × Hc) := [(30, ioHd iopGet32 FpGet32), (31, ioHd iokrow Fkrow)]
noncomputable def hdkGet : Hd := hdT cskGet
noncomputable def lpkGet : Lp := lpT []

noncomputable def bodykGet (a0 : List Int) (a1 : Int) : Option iokGet.Res := bif (spGet 5 15 a0 a1).snd.snd != 0 then some (Out.ret (((0, 0, (false, [], ()), (false, [], ()), [], ()), 0, (spGet 5 15 a0 a1).snd.snd, ()), ())) else bif decide (IntKind.i32.wrap (spZag (spGet 5 15 a0 a1).fst) < 0) then some (Out.ret (((0, 0, (false, [], ()), (false, [], ()), [], ()), 0, 5, ()), ())) else bif decide (16384 < IntKind.i32.wrap (spZag (spGet 5 15 a0 a1).fst)) then some (Out.ret (((0, 0, (false, [], ()), (false, [], ()), [], ()), 0, 4, ()), ())) else bif decide (IntKind.i64.wrap ((↑a0.length : Int) - (spGet 5 15 a0 a1).snd.fst) < IntKind.i64.wrap (IntKind.i32.wrap (spZag (spGet 5 15 a0 a1).fst))) then some (Out.ret (((0, 0, (false, [], ()), (false, [], ()), [], ()), 0, 1, ()), ())) else bif decide (0 ≤ (spGet 5 15 a0 a1).snd.fst) && (decide ((spGet 5 15 a0 a1).snd.fst ≤ IntKind.i64.wrap ((spGet 5 15 a0 a1).snd.fst + IntKind.i64.wrap (IntKind.i32.wrap (spZag (spGet 5 15 a0 a1).fst)))) && (decide (IntKind.i64.wrap ((spGet 5 15 a0 a1).snd.fst + IntKind.i64.wrap (IntKind.i32.wrap (spZag (spGet 5 15 a0 a1).fst))) ≤ IntKind.i64.wrap ((spGet 5 15 a0 a1).snd.fst + IntKind.i64.wrap (IntKind.i32.wrap (spZag (spGet 5 15 a0 a1).fst)))) && decide (IntKind.i64.wrap ((spGet 5 15 a0 a1).snd.fst + IntKind.i64.wrap (IntKind.i32.wrap (spZag (spGet 5 15 a0 a1).fst))) ≤ (↑a0.length : Int)))) then bif decide ((spRow (List.drop (spGet 5 15 a0 a1).snd.fst.toNat (List.take (IntKind.i64.wrap ((spGet 5 15 a0 a1).snd.fst + IntKind.i64.wrap (IntKind.i32.wrap (spZag (spGet 5 15 a0 a1).fst)))).toNat a0))).snd = 0) then some (Out.ret ((((spRow (List.drop (spGet 5 15 a0 a1).snd.fst.toNat (List.take (IntKind.i64.wrap ((spGet 5 15 a0 a1).snd.fst + IntKind.i64.wrap (IntKind.i32.wrap (spZag (spGet 5 15 a0 a1).fst)))).toNat a0))).fst.fst, (spRow (List.drop (spGet 5 15 a0 a1).snd.fst.toNat (List.take (IntKind.i64.wrap ((spGet 5 15 a0 a1).snd.fst + IntKind.i64.wrap (IntKind.i32.wrap (spZag (spGet 5 15 a0 a1).fst)))).toNat a0))).fst.snd.fst, ((spRow (List.drop (spGet 5 15 a0 a1).snd.fst.toNat (List.take (IntKind.i64.wrap ((spGet 5 15 a0 a1).snd.fst + IntKind.i64.wrap (IntKind.i32.wrap (spZag (spGet 5 15 a0 a1).fst)))).toNat a0))).fst.snd.snd.fst.fst, (spRow (List.drop (spGet 5 15 a0 a1).snd.fst.toNat (List.take (IntKind.i64.wrap ((spGet 5 15 a0 a1).snd.fst + IntKind.i64.wrap (IntKind.i32.wrap (spZag (spGet 5 15 a0 a1).fst)))).toNat a0))).fst.snd.snd.fst.snd.fst, ()), ((spRow (List.drop (spGet 5 15 a0 a1).snd.fst.toNat (List.take (IntKind.i64.wrap ((spGet 5 15 a0 a1).snd.fst + IntKind.i64.wrap (IntKind.i32.wrap (spZag (spGet 5 15 a0 a1).fst)))).toNat a0))).fst.snd.snd.snd.fst.fst, (spRow (List.drop (spGet 5 15 a0 a1).snd.fst.toNat (List.take (IntKind.i64.wrap ((spGet 5 15 a0 a1).snd.fst + IntKind.i64.wrap (IntKind.i32.wrap (spZag (spGet 5 15 a0 a1).fst)))).toNat a0))).fst.snd.snd.snd.fst.snd.fst, ()), (spRow (List.drop (spGet 5 15 a0 a1).snd.fst.toNat (List.take (IntKind.i64.wrap ((spGet 5 15 a0 a1).snd.fst + IntKind.i64.wrap (IntKind.i32.wrap (spZag (spGet 5 15 a0 a1).fst)))).toNat a0))).fst.snd.snd.snd.snd.fst, ()), IntKind.i64.wrap ((spGet 5 15 a0 a1).snd.fst + IntKind.i64.wrap (IntKind.i32.wrap (spZag (spGet 5 15 a0 a1).fst))), 0, ()), ())) else some (Out.ret (((0, 0, (false, [], ()), (false, [], ()), [], ()), 0, (spRow (List.drop (spGet 5 15 a0 a1).snd.fst.toNat (List.take (IntKind.i64.wrap ((spGet 5 15 a0 a1).snd.fst + IntKind.i64.wrap (IntKind.i32.wrap (spZag (spGet 5 15 a0 a1).fst)))).toNat a0))).snd, ()), ())) else none
theorem runkGet (a0 : List Int) (a1 : Int) : Io.runD tt hdkGet dr lpkGet 64 128 iokGet Go.Proofs.Try.f11 29 Go.Proofs.Try.f29 11 ((a0, a1, ()), ()) = bodykGet a0 a1 := by kernel_rfl
theorem okkGet : HcOk prog 11 (ioHd iokGet FkGet) := by
  have htt := ttOf_ok Go.Proofs.Try.prog 400
  have hcs : HcsOk prog cskGet := .cons okpGet32 (.cons okkrow .nil)
  refine defer_sound (P := prog) htt hm (hdT_ok hcs) (orderD_ok htt) (fn := Go.Proofs.Try.f11) (by kernel_rfl) (by kernel_rfl) iokGet (kb2 := 64) (kbG := 128) (by decide) (by decide)
    (i1 := 1) (ops1 := regOps (seqL (seqR (fnCode Go.Proofs.Try.f11)))) (by kernel_rfl) rfl (by kernel_rfl)
    (o1 := ((regOps (seqL (seqR (fnCode Go.Proofs.Try.f11))))[1]?).getD default) (t := 11) (aT := #[]) (by kernel_rfl) (by kernel_rfl) (by kernel_rfl) (by kernel_rfl) (lp := lpkGet) (by kernel_rfl) (noLoops (by kernel_rfl))
    (g := 29) (gfn := Go.Proofs.Try.f29) (i2 := 0) (gops := regOps (seqL (fnCode Go.Proofs.Try.f29))) (grest := seqR (fnCode Go.Proofs.Try.f29))
    (by kernel_rfl) (by kernel_rfl) (by kernel_rfl) rfl rfl (by kernel_rfl) (oo := ((regOps (seqL (fnCode Go.Proofs.Try.f29)))[0]?).getD default) (by kernel_rfl) (by kernel_rfl) (by kernel_rfl) (by kernel_rfl) (by kernel_rfl) FkGet ?_
  rintro ⟨⟨(b : List Int), (p : Int), ⟨⟩⟩, ⟨⟩⟩ out hw ho
  cases ho
  refine (runkGet b p).trans ?_
  have hb : b.length ≤ maxLen := hw.1.1.1
  rw [maxLen_eq] at hb
  show _ = some (Out.ret (((spRec b p).1, (spRec b p).2.1, (spRec b p).2.2, ()), ()))
  have hr := @spNum_range b p
  unfold bodykGet
  by_cases h0 : (spNum b p).2.2 = 0
  rotate_left
  · have h0' : (spGet 5 15 b p).2.2 ≠ 0 := h0
    have e : spRec b p = (spNone, 0, (spGet 5 15 b p).2.2) := by unfold spRec; rw [if_pos h0]; rfl
    rw [e, bif_true (by simpa using h0')]
    rfl
  have hk := spNum_ok h0
  have h0' : (spGet 5 15 b p).2.2 = 0 := h0
  rw [bif_false (by simpa using h0')]
  generalize hq : (spGet 5 15 b p).2.1 = q
  generalize hn : IntKind.wrap .i32 (spZag (spGet 5 15 b p).1) = n
  have hq : (spNum b p).2.1 = q := hq
  have hn : (spNum b p).1 = n := hn
  have e0 : spRec b p = if n < 0 then (spNone, 0, 5) else if 16384 < n then (spNone, 0, 4) else if (b.length : Int) - q < n then (spNone, 0, 1)
      else if (spRow ((b.drop q.toNat).take n.toNat)).2 ≠ 0 then (spNone, 0, (spRow ((b.drop q.toNat).take n.toNat)).2)
      else ((spRow ((b.drop q.toNat).take n.toNat)).1, q + n, 0) := by unfold spRec; rw [if_neg (by simpa using h0), hq, hn]
  rw [e0]
  rw [hq] at hk
  rw [hn] at hr
  by_cases h1 : n < 0
  · rw [bif_true (by simpa using h1), if_pos h1]
    rfl
  rw [bif_false (by simpa using h1), if_neg h1]
  by_cases h2 : 16384 < n
  · rw [bif_true (by simpa using h2), if_pos h2]
    rfl
  rw [bif_false (by simpa using h2), if_neg h2, wrap_i64 (n := (b.length : Int) - q) (by omega) (by omega), wrap_i64 (n := n) (by omega) (by omega)]
  by_cases h3 : (b.length : Int) - q < n
  · rw [bif_true (by simpa using h3), if_pos h3]
    rfl
  rw [bif_false (by simpa using h3), if_neg h3, wrap_i64 (n := q + n) (by omega) (by omega), bif_true (by simp; omega), List.drop_take, show (q + n).toNat - q.toNat = n.toNat by omega]
  generalize spRow ((b.drop q.toNat).take n.toNat) = r
  by_cases h4 : r.2 = 0
  · rw [bif_true (by simpa using h4), if_neg (notNe h4)]
  · rw [bif_false (by simpa using h4), if_pos h4]
    rfl

end
end Go.Proofs.Ytnppjkijhcampaa.Sym
