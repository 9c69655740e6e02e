/- rec's reader: number, take, count, blob, header. -/
import Derived.Test.YtnppjkijhcampaaCPclone

namespace Go.Proofs.Ytnppjkijhcampaa.Sym
open Go
set_option linter.unusedSimpArgs false
set_option linter.unusedVariables false
noncomputable section

noncomputable abbrev tFault : Ty := .prod (.int .i64) .unit
noncomputable abbrev kFault : Option (Nat × Ty) := some (60, tFault)
noncomputable abbrev oRd : List Sh := [dL, dI]

/-! ### (*leat/rec.reader).number -/
noncomputable abbrev ioknumber : Io := ⟨[.ptr 0 0], [oRd], [], [dI], kFault⟩
noncomputable def Fknumber (d : ioknumber.In) : Tr ioknumber.Res :=
  .ite (decide ((spNum d.2.1.1 d.2.1.2.1).2.2 = 0)) (.ret (.ret (((spNum d.2.1.1 d.2.1.2.1).1, ()), ((d.2.1.1, ((spNum d.2.1.1 d.2.1.2.1).2.1, ())), ())))) (.ret (.pan ((spNum d.2.1.1 d.2.1.2.1).2.2, ())))
noncomputable abbrev csknumber : List (Nat × Hc) := [(30, ioHd iopGet32 FpGet32)]
noncomputable def hdknumber : Hd := hdT csknumber
noncomputable def lpknumber : Lp := lpT []

noncomputable def bodyknumber (a0 : List Int) (a1 : Int) : Option ioknumber.Res := bif (spGet 5 15 a0 a1).snd.snd != 0 then some (Out.pan ((spGet 5 15 a0 a1).snd.snd, ())) else some (Out.ret ((IntKind.i64.wrap (IntKind.i32.wrap (spZag (spGet 5 15 a0 a1).fst)), ()), (a0, (spGet 5 15 a0 a1).snd.fst, ()), ()))
theorem runknumber (a0 : List Int) (a1 : Int) : Io.run tt hdknumber dr lpknumber ioknumber Go.Proofs.Try.f49 (((), ()), (a0, a1, ()), ()) = bodyknumber a0 a1 := by kernel_rfl
theorem okknumber : HcOk prog 49 (ioHd ioknumber Fknumber) := by
  refine fn_sound (n := 400) hm (cs := csknumber) (.cons okpGet32 .nil) (lp := lpknumber) (fn := Go.Proofs.Try.f49) (by kernel_rfl) (by kernel_rfl) (by kernel_rfl) ioknumber (.done (by kernel_rfl)) Fknumber ?_
  rintro ⟨⟨⟨⟩, ⟨⟩⟩, ⟨⟨(b : List Int), (p : Int), ⟨⟩⟩, ⟨⟩⟩⟩ out hw ho
  refine (runknumber b p).trans ?_
  rw [← ho]
  have hr := @spNum_range b p
  unfold bodyknumber Fknumber
  change (bif (spNum b p).2.2 != 0 then some (Out.pan ((spNum b p).2.2, ())) else some (Out.ret ((IntKind.i64.wrap (spNum b p).1, ()), (b, (spNum b p).2.1, ()), ()))) = _
  rw [wrap_i64 (n := (spNum b p).1) (by omega) (by omega)]
  simp only [Tr.val_ite, Tr.val_ret, decide_eq_true_eq]
  by_cases h : (spNum b p).2.2 = 0
  · rw [bif_false (by simpa using h), if_pos h]
  · rw [bif_true (by simpa using h), if_neg h]

/-! ### (*leat/rec.reader).take -/
noncomputable abbrev ioktake : Io := ⟨[.ptr 0 0, dI], [oRd], [], [dO], kFault⟩
noncomputable def Fktake (d : ioktake.In) : Tr ioktake.Res :=
  .ite (decide ((0 : Int) ≤ d.1.2.1) && (decide (d.1.2.1 ≤ (4294967296 : Int)) && (decide ((0 : Int) ≤ d.2.1.2.1) && decide (d.2.1.2.1 ≤ (d.2.1.1.length : Int)))))
    (.ite (decide ((d.2.1.1.length : Int) - d.2.1.2.1 < d.1.2.1)) (.ret (.pan (1, ()))) (.ret (.ret (((d.2.1.1.drop d.2.1.2.1.toNat).take d.1.2.1.toNat, ()), ((d.2.1.1, ((d.2.1.2.1 : Int) + d.1.2.1, ())), ()))))) .no
noncomputable abbrev csktake : List (Nat × Hc) := [(65, ioHd iopClone FpClone)]
noncomputable def hdktake : Hd := hdT csktake
noncomputable def lpktake : Lp := lpT []

noncomputable def bodyktake (a0 : Int) (a1 : List Int) (a2 : Int) : Option ioktake.Res := bif decide (IntKind.i64.wrap ((↑a1.length : Int) - a2) < a0) then some (Out.pan (1, ())) else bif decide (0 ≤ IntKind.i64.wrap (IntKind.i64.wrap (a2 + a0) - a0)) && (decide (IntKind.i64.wrap (IntKind.i64.wrap (a2 + a0) - a0) ≤ IntKind.i64.wrap (a2 + a0)) && decide (IntKind.i64.wrap (a2 + a0) ≤ (↑a1.length : Int))) then bif decide ((List.drop (IntKind.i64.wrap (IntKind.i64.wrap (a2 + a0) - a0)).toNat (List.take (IntKind.i64.wrap (a2 + a0)).toNat a1)).length ≤ 4294967296) then some (Out.ret ((List.drop (IntKind.i64.wrap (IntKind.i64.wrap (a2 + a0) - a0)).toNat (List.take (IntKind.i64.wrap (a2 + a0)).toNat a1), ()), (a1, IntKind.i64.wrap (a2 + a0), ()), ())) else none else none
theorem runktake (a0 : Int) (a1 : List Int) (a2 : Int) : Io.run tt hdktake dr lpktake ioktake Go.Proofs.Try.f47 (((), a0, ()), (a1, a2, ()), ()) = bodyktake a0 a1 a2 := by kernel_rfl
theorem okktake : HcOk prog 47 (ioHd ioktake Fktake) := by
  refine fn_sound (n := 400) hm (cs := csktake) (.cons okpClone .nil) (lp := lpktake) (fn := Go.Proofs.Try.f47) (by kernel_rfl) (by kernel_rfl) (by kernel_rfl) ioktake (.done (by kernel_rfl)) Fktake ?_
  rintro ⟨⟨⟨⟩, (n : Int), ⟨⟩⟩, ⟨⟨(b : List Int), (p : Int), ⟨⟩⟩, ⟨⟩⟩⟩ out hw ho
  obtain ⟨hg, ho⟩ := Tr.guard ho
  simp only [Bool.and_eq_true, decide_eq_true_eq] at hg
  have h0 : 0 ≤ n := hg.1
  have h1 : n ≤ 4294967296 := hg.2.1
  have h2 : 0 ≤ p := hg.2.2.1
  have h3 : p ≤ b.length := hg.2.2.2
  refine (runktake n b p).trans ?_
  rw [← ho]
  have hb : b.length ≤ maxLen := hw.2.1.1.1
  rw [maxLen_eq] at hb
  unfold bodyktake
  rw [wrap_i64 (n := (b.length : Int) - p) (by omega) (by omega)]
  simp only [Tr.val_ite, Tr.val_ret, decide_eq_true_eq]
  by_cases h : (b.length : Int) - p < n
  · rw [bif_true (by simpa using h), if_pos h]
  · rw [bif_false (by simpa using h), if_neg h, wrap_i64 (n := p + n) (by omega) (by omega), show p + n - n = p by omega, wrap_i64 (n := p) (by omega) (by omega)]
    rw [bif_true (by simp; omega), List.drop_take, show (p + n).toNat - p.toNat = n.toNat by omega, bif_true (by simp; omega)]

/-! ### (*leat/rec.reader).count -/
noncomputable abbrev iokcount : Io := ⟨[.ptr 0 0, dI], [oRd], [], [dI], kFault⟩
noncomputable def Fkcount (d : iokcount.In) : Tr iokcount.Res :=
  .ite (decide ((spNum d.2.1.1 d.2.1.2.1).2.2 = 0)) (.ite (decide ((spNum d.2.1.1 d.2.1.2.1).1 < d.1.2.1)) (.ret (.pan (5, ()))) (.ret (.ret (((spNum d.2.1.1 d.2.1.2.1).1, ()), ((d.2.1.1, ((spNum d.2.1.1 d.2.1.2.1).2.1, ())), ())))))
    (.ret (.pan ((spNum d.2.1.1 d.2.1.2.1).2.2, ())))
noncomputable abbrev cskcount : List (Nat × Hc) := [(49, ioHd ioknumber Fknumber)]
noncomputable def hdkcount : Hd := hdT cskcount
noncomputable def lpkcount : Lp := lpT []

noncomputable def bodykcount (a0 : Int) (a1 : List Int) (a2 : Int) : Option iokcount.Res := bif decide ((spGet 5 15 a1 a2).snd.snd = 0) then bif decide (IntKind.i32.wrap (spZag (spGet 5 15 a1 a2).fst) < a0) then some (Out.pan (5, ())) else some (Out.ret ((IntKind.i32.wrap (spZag (spGet 5 15 a1 a2).fst), ()), (a1, (spGet 5 15 a1 a2).snd.fst, ()), ())) else some (Out.pan ((spGet 5 15 a1 a2).snd.snd, ()))
theorem runkcount (a0 : Int) (a1 : List Int) (a2 : Int) : Io.run tt hdkcount dr lpkcount iokcount Go.Proofs.Try.f51 (((), a0, ()), (a1, a2, ()), ()) = bodykcount a0 a1 a2 := by kernel_rfl
theorem okkcount : HcOk prog 51 (ioHd iokcount Fkcount) := by
  refine fn_sound (n := 400) hm (cs := cskcount) (.cons okknumber .nil) (lp := lpkcount) (fn := Go.Proofs.Try.f51) (by kernel_rfl) (by kernel_rfl) (by kernel_rfl) iokcount (.done (by kernel_rfl)) Fkcount ?_
  rintro ⟨⟨⟨⟩, (l : Int), ⟨⟩⟩, ⟨⟨(b : List Int), (p : Int), ⟨⟩⟩, ⟨⟩⟩⟩ out hw ho
  refine (runkcount l b p).trans ?_
  rw [← ho]
  unfold bodykcount Fkcount
  change (bif decide ((spNum b p).2.2 = 0) then bif decide ((spNum b p).1 < l) then some (Out.pan (5, ())) else some (Out.ret (((spNum b p).1, ()), (b, (spNum b p).2.1, ()), ())) else some (Out.pan ((spNum b p).2.2, ()))) = _
  simp only [Tr.val_ite, Tr.val_ret, cond_eq_ite]

/-! ### (*leat/rec.reader).blob -/
noncomputable abbrev iokblob : Io := ⟨[.ptr 0 0], [oRd], [], [dBlob], kFault⟩
noncomputable def Fkblob (d : iokblob.In) : Tr iokblob.Res :=
  .ite (decide ((spTake d.2.1.1 d.2.1.2.1 (-1)).2.2 = 0)) (.ret (.ret (((spTake d.2.1.1 d.2.1.2.1 (-1)).1, ()), ((d.2.1.1, ((spTake d.2.1.1 d.2.1.2.1 (-1)).2.1, ())), ())))) (.ret (.pan ((spTake d.2.1.1 d.2.1.2.1 (-1)).2.2, ())))
noncomputable abbrev cskblob : List (Nat × Hc) := [(51, ioHd iokcount Fkcount), (47, ioHd ioktake Fktake)]
noncomputable def hdkblob : Hd := hdT cskblob
noncomputable def lpkblob : Lp := lpT []

noncomputable def bodykblob (a0 : List Int) (a1 : Int) : Option iokblob.Res := bif decide ((spGet 5 15 a0 a1).snd.snd = 0) then bif decide (IntKind.i32.wrap (spZag (spGet 5 15 a0 a1).fst) < -1) then some (Out.pan (5, ())) else bif decide (IntKind.i32.wrap (spZag (spGet 5 15 a0 a1).fst) < 0) then some (Out.ret (((true, [], ()), ()), (a0, (spGet 5 15 a0 a1).snd.fst, ()), ())) else bif decide (0 ≤ IntKind.i32.wrap (spZag (spGet 5 15 a0 a1).fst)) && (decide (IntKind.i32.wrap (spZag (spGet 5 15 a0 a1).fst) ≤ 4294967296) && (decide (0 ≤ (spGet 5 15 a0 a1).snd.fst) && decide ((spGet 5 15 a0 a1).snd.fst ≤ (↑a0.length : Int)))) then bif decide ((↑a0.length : Int) - (spGet 5 15 a0 a1).snd.fst < IntKind.i32.wrap (spZag (spGet 5 15 a0 a1).fst)) then some (Out.pan (1, ())) else some (Out.ret (((false, List.take (IntKind.i32.wrap (spZag (spGet 5 15 a0 a1).fst)).toNat (List.drop (spGet 5 15 a0 a1).snd.fst.toNat a0), ()), ()), (a0, (spGet 5 15 a0 a1).snd.fst + IntKind.i32.wrap (spZag (spGet 5 15 a0 a1).fst), ()), ())) else none else some (Out.pan ((spGet 5 15 a0 a1).snd.snd, ()))
theorem runkblob (a0 : List Int) (a1 : Int) : Io.run tt hdkblob dr lpkblob iokblob Go.Proofs.Try.f50 (((), ()), (a0, a1, ()), ()) = bodykblob a0 a1 := by kernel_rfl
theorem okkblob : HcOk prog 50 (ioHd iokblob Fkblob) := by
  refine fn_sound (n := 400) hm (cs := cskblob) (.cons okkcount (.cons okktake .nil)) (lp := lpkblob) (fn := Go.Proofs.Try.f50) (by kernel_rfl) (by kernel_rfl) (by kernel_rfl) iokblob (.done (by kernel_rfl)) Fkblob ?_
  rintro ⟨⟨⟨⟩, ⟨⟩⟩, ⟨⟨(b : List Int), (p : Int), ⟨⟩⟩, ⟨⟩⟩⟩ out hw ho
  refine (runkblob b p).trans ?_
  rw [← ho]
  have hr := @spNum_range b p
  unfold bodykblob Fkblob
  simp only [Tr.val_ite, Tr.val_ret, decide_eq_true_eq]
  change (bif decide ((spNum b p).2.2 = 0) then bif decide ((spNum b p).1 < -1) then some (Out.pan (5, ())) else bif decide ((spNum b p).1 < 0) then some (Out.ret (((true, [], ()), ()), (b, (spNum b p).2.1, ()), ())) else
    bif decide (0 ≤ (spNum b p).1) && (decide ((spNum b p).1 ≤ 4294967296) && (decide (0 ≤ (spNum b p).2.1) && decide ((spNum b p).2.1 ≤ (b.length : Int)))) then bif decide ((b.length : Int) - (spNum b p).2.1 < (spNum b p).1) then some (Out.pan (1, ())) else
      some (Out.ret (((false, List.take (spNum b p).1.toNat (List.drop (spNum b p).2.1.toNat b), ()), ()), (b, (spNum b p).2.1 + (spNum b p).1, ()), ())) else none else some (Out.pan ((spNum b p).2.2, ()))) = _
  by_cases h0 : (spNum b p).2.2 = 0
  rotate_left
  · have e : spTake b p (-1) = ((false, [], ()), 0, (spNum b p).2.2) := by unfold spTake; rw [if_pos h0]
    rw [e, bif_false (by simpa using h0), if_neg h0]
  have hk := spNum_ok h0
  rw [bif_true (by simpa using h0)]
  by_cases h1 : (spNum b p).1 < -1
  · have e : spTake b p (-1) = ((false, [], ()), 0, 5) := by unfold spTake; rw [if_neg (by simpa using h0), if_pos h1]
    rw [e, bif_true (by simpa using h1)]
    rfl
  rw [bif_false (by simpa using h1)]
  by_cases h2 : (spNum b p).1 < 0
  · have e : spTake b p (-1) = ((true, [], ()), (spNum b p).2.1, 0) := by unfold spTake; rw [if_neg (by simpa using h0), if_neg h1, if_pos h2]
    rw [e, bif_true (by simpa using h2)]
    rfl
  rw [bif_false (by simpa using h2), bif_true (by simp; omega)]
  by_cases h3 : (b.length : Int) - (spNum b p).2.1 < (spNum b p).1
  · have e : spTake b p (-1) = ((false, [], ()), 0, 1) := by unfold spTake; rw [if_neg (by simpa using h0), if_neg h1, if_neg h2, if_pos h3]
    rw [e, bif_true (by simpa using h3)]
    rfl
  · have e : spTake b p (-1) = ((false, (b.drop (spNum b p).2.1.toNat).take (spNum b p).1.toNat, ()), (spNum b p).2.1 + (spNum b p).1, 0) := by unfold spTake; rw [if_neg (by simpa using h0), if_neg h1, if_neg h2, if_neg h3]
    rw [e, bif_false (by simpa using h3)]
    rfl

/-! ### (*leat/rec.reader).header -/
/-- A header read: it, the place behind, the error. -/
noncomputable def spHead (b : List Int) (p : Int) : Head × Int × Int :=
  if (spTake b p 0).2.2 ≠ 0 then (([], (false, [], ()), ()), 0, (spTake b p 0).2.2)
  else if (spUtf (spTake b p 0).1.2.1).2 = false then (([], (false, [], ()), ()), 0, 6)
  else (((spTake b p 0).1.2.1, (spTake b (spTake b p 0).2.1 (-1)).1, ()), (spTake b (spTake b p 0).2.1 (-1)).2.1, (spTake b (spTake b p 0).2.1 (-1)).2.2)
noncomputable abbrev dHead : Sh := .dat tHead true false
noncomputable abbrev iokheader : Io := ⟨[.ptr 0 0], [oRd], [], [dHead], kFault⟩
noncomputable def Fkheader (d : iokheader.In) : Tr iokheader.Res :=
  .ite (decide ((spHead d.2.1.1 d.2.1.2.1).2.2 = 0)) (.ret (.ret (((spHead d.2.1.1 d.2.1.2.1).1, ()), ((d.2.1.1, ((spHead d.2.1.1 d.2.1.2.1).2.1, ())), ())))) (.ret (.pan ((spHead d.2.1.1 d.2.1.2.1).2.2, ())))
noncomputable abbrev cskheader : List (Nat × Hc) := [(51, ioHd iokcount Fkcount), (47, ioHd ioktake Fktake), (66, ioHd iopUtf FpUtf), (50, ioHd iokblob Fkblob)]
noncomputable def hdkheader : Hd := hdT cskheader
noncomputable def lpkheader : Lp := lpT []

noncomputable def bodykheader (a0 : List Int) (a1 : Int) : Option iokheader.Res := bif decide ((spGet 5 15 a0 a1).snd.snd = 0) then bif decide (IntKind.i32.wrap (spZag (spGet 5 15 a0 a1).fst) < 0) then some (Out.pan (5, ())) else bif decide (0 ≤ IntKind.i32.wrap (spZag (spGet 5 15 a0 a1).fst)) && (decide (IntKind.i32.wrap (spZag (spGet 5 15 a0 a1).fst) ≤ 4294967296) && (decide (0 ≤ (spGet 5 15 a0 a1).snd.fst) && decide ((spGet 5 15 a0 a1).snd.fst ≤ (↑a0.length : Int)))) then bif decide ((↑a0.length : Int) - (spGet 5 15 a0 a1).snd.fst < IntKind.i32.wrap (spZag (spGet 5 15 a0 a1).fst)) then some (Out.pan (1, ())) else bif !(spUtf (List.take (IntKind.i32.wrap (spZag (spGet 5 15 a0 a1).fst)).toNat (List.drop (spGet 5 15 a0 a1).snd.fst.toNat a0))).snd then some (Out.pan (6, ())) else bif decide ((spTake a0 ((spGet 5 15 a0 a1).snd.fst + IntKind.i32.wrap (spZag (spGet 5 15 a0 a1).fst)) (-1)).snd.snd = 0) then some (Out.ret (((List.take (IntKind.i32.wrap (spZag (spGet 5 15 a0 a1).fst)).toNat (List.drop (spGet 5 15 a0 a1).snd.fst.toNat a0), ((spTake a0 ((spGet 5 15 a0 a1).snd.fst + IntKind.i32.wrap (spZag (spGet 5 15 a0 a1).fst)) (-1)).fst.fst, (spTake a0 ((spGet 5 15 a0 a1).snd.fst + IntKind.i32.wrap (spZag (spGet 5 15 a0 a1).fst)) (-1)).fst.snd.fst, ()), ()), ()), (a0, (spTake a0 ((spGet 5 15 a0 a1).snd.fst + IntKind.i32.wrap (spZag (spGet 5 15 a0 a1).fst)) (-1)).snd.fst, ()), ())) else some (Out.pan ((spTake a0 ((spGet 5 15 a0 a1).snd.fst + IntKind.i32.wrap (spZag (spGet 5 15 a0 a1).fst)) (-1)).snd.snd, ())) else none else some (Out.pan ((spGet 5 15 a0 a1).snd.snd, ()))
theorem runkheader (a0 : List Int) (a1 : Int) : Io.run tt hdkheader dr lpkheader iokheader Go.Proofs.Try.f52 (((), ()), (a0, a1, ()), ()) = bodykheader a0 a1 := by kernel_rfl
theorem okkheader : HcOk prog 52 (ioHd iokheader Fkheader) := by
  refine fn_sound (n := 400) hm (cs := cskheader) (.cons okkcount (.cons okktake (.cons okpUtf (.cons okkblob .nil)))) (lp := lpkheader) (fn := Go.Proofs.Try.f52) (by kernel_rfl) (by kernel_rfl) (by kernel_rfl) iokheader (.done (by kernel_rfl)) Fkheader ?_
  rintro ⟨⟨⟨⟩, ⟨⟩⟩, ⟨⟨(b : List Int), (p : Int), ⟨⟩⟩, ⟨⟩⟩⟩ out hw ho
  refine (runkheader b p).trans ?_
  rw [← ho]
  have hr := @spNum_range b p
  unfold bodykheader Fkheader
  simp only [Tr.val_ite, Tr.val_ret, decide_eq_true_eq]
  have hn : IntKind.i32.wrap (spZag (spGet 5 15 b p).fst) = (spNum b p).1 := rfl
  have hq : (spGet 5 15 b p).2.1 = (spNum b p).2.1 := rfl
  have he : (spGet 5 15 b p).2.2 = (spNum b p).2.2 := rfl
  rw [hn, hq, he]
  by_cases h0 : (spNum b p).2.2 = 0
  rotate_left
  · have e0 : spTake b p 0 = ((false, [], ()), 0, (spNum b p).2.2) := by unfold spTake; rw [if_pos h0]
    have e : spHead b p = (([], (false, [], ()), ()), 0, (spNum b p).2.2) := by unfold spHead; rw [e0, if_pos h0]
    rw [e, bif_false (by simpa using h0), if_neg h0]
  have hk := spNum_ok h0
  rw [bif_true (by simpa using h0)]
  by_cases h2 : (spNum b p).1 < 0
  · have e0 : spTake b p 0 = ((false, [], ()), 0, 5) := by unfold spTake; rw [if_neg (by simpa using h0), if_pos h2]
    have e : spHead b p = (([], (false, [], ()), ()), 0, 5) := by unfold spHead; rw [e0]; rfl
    rw [e, bif_true (by simpa using h2)]
    rfl
  rw [bif_false (by simpa using h2), bif_true (by simp; omega)]
  by_cases h3 : (b.length : Int) - (spNum b p).2.1 < (spNum b p).1
  · have e0 : spTake b p 0 = ((false, [], ()), 0, 1) := by unfold spTake; rw [if_neg (by simpa using h0), if_neg h2, if_neg h2, if_pos h3]
    have e : spHead b p = (([], (false, [], ()), ()), 0, 1) := by unfold spHead; rw [e0]; rfl
    rw [e, bif_true (by simpa using h3)]
    rfl
  have e0 : spTake b p 0 = ((false, (b.drop (spNum b p).2.1.toNat).take (spNum b p).1.toNat, ()), (spNum b p).2.1 + (spNum b p).1, 0) := by unfold spTake; rw [if_neg (by simpa using h0), if_neg h2, if_neg h2, if_neg h3]
  rw [bif_false (by simpa using h3)]
  by_cases h4 : (spUtf ((b.drop (spNum b p).2.1.toNat).take (spNum b p).1.toNat)).2 = false
  · have e : spHead b p = (([], (false, [], ()), ()), 0, 6) := by
      unfold spHead
      rw [e0, if_neg (by simp), if_pos h4]
    rw [e, h4]
    rfl
  have e : spHead b p = (((b.drop (spNum b p).2.1.toNat).take (spNum b p).1.toNat, (spTake b ((spNum b p).2.1 + (spNum b p).1) (-1)).1, ()), (spTake b ((spNum b p).2.1 + (spNum b p).1) (-1)).2.1, (spTake b ((spNum b p).2.1 + (spNum b p).1) (-1)).2.2) := by
    unfold spHead
    rw [e0, if_neg (by simp), if_neg h4]
  rw [e, bif_false (by simpa using h4)]
  simp only [cond_eq_ite, decide_eq_true_eq]

end
end Go.Proofs.Ytnppjkijhcampaa.Sym
