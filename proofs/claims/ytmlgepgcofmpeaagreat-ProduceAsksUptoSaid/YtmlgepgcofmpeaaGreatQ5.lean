/- cursor.Reader: NewReader, Left, number, I16, I32, I64, Skip, Take, End. -/
import Derived.Test.YtmlgepgcofmpeaaGreatQ4

namespace Go.Proofs.YtmlgepgcofmpeaaGreat.Sym
open Go
set_option linter.unusedSimpArgs false
set_option linter.unusedVariables false
noncomputable section

noncomputable abbrev oRr : List Sh := [dL, dI]
noncomputable abbrev d64s : Sh := .dat (.int .i64) false false
/-- The number that some bytes write, the highest first. -/
def spBEv (l : List Int) : Int := l.foldl (fun v c => v * 256 + c) 0
/-- A number of n bytes at a place: it, the place behind, the error. -/
noncomputable def spRd (b : List Int) (p : Int) (n : Nat) : Int × (Int × Int) := if (b.length : Int) - p < n then (0, (p, 1)) else (spBEv ((b.drop p.toNat).take n), (p + n, 0))
def spRok (b : List Int) (p : Int) : Bool := decide (b.length ≤ 4294960000) && (decide (0 ≤ p) && decide (p ≤ (b.length : Int)))

/-- Passing over n bytes: the place behind, the error. -/
noncomputable def spSkip (b : List Int) (p n : Int) : Int × Int := if n < 0 then (p, 3) else if (b.length : Int) - p < n then (p, 1) else (p + n, 0)
noncomputable def spTakeB (b : List Int) (p n : Int) : List Int × (Int × Int) := if n < 0 then ([], (p, 3)) else if (b.length : Int) - p < n then ([], (p, 1)) else ((b.drop p.toNat).take n.toNat, (p + n, 0))
/-- Bytes that are left. -/
noncomputable def spEnd (b : List Int) (p : Int) : Int := if p < (b.length : Int) then 2 else 0

/-! ### (*leat/cursor.Reader).Left -/
noncomputable abbrev iordLeft : Io := ⟨[.ptr 0 0], [oRr], [], [dI], none⟩
noncomputable def FrdLeft (d : iordLeft.In) : Tr iordLeft.Res := .ret (.ret ((IntKind.i64.wrap ((d.2.1.1.length : Int) - d.2.1.2.1), ()), ((d.2.1.1, (d.2.1.2.1, ())), ())))
noncomputable abbrev csrdLeft : List (Nat × Hc) := []
noncomputable def hdrdLeft : Hd := hdT csrdLeft
noncomputable def lprdLeft : Lp := lpT []

noncomputable def bodyrdLeft (a0 : List Int) (a1 : Int) : Option iordLeft.Res := some (Out.ret ((IntKind.i64.wrap ((↑a0.length : Int) - a1), ()), (a0, a1, ()), ()))
theorem runrdLeft (a0 : List Int) (a1 : Int) : Io.run tt hdrdLeft dr lprdLeft iordLeft Go.Proofs.Tryz.f149 (((), ()), (a0, a1, ()), ()) = bodyrdLeft a0 a1 := by kernel_rfl
theorem okrdLeft : HcOk prog 149 (ioHd iordLeft FrdLeft) := by
  refine fn_sound (n := 400) hm (cs := csrdLeft) HcsOk.nil (lp := lprdLeft) (fn := Go.Proofs.Tryz.f149) (by kernel_rfl) (by kernel_rfl) (by kernel_rfl) iordLeft (.done (by kernel_rfl)) FrdLeft ?_
  rintro ⟨⟨⟨⟩, ⟨⟩⟩, ⟨⟨(b : List Int), (p : Int), ⟨⟩⟩, ⟨⟩⟩⟩ out hw ho
  rw [← ho]
  exact runrdLeft b p

/-! ### (*leat/cursor.Reader).number -/
noncomputable abbrev iordnumber : Io := ⟨[.ptr 0 0, dI], [oRr], [], [d64u, dI], none⟩
noncomputable def Frdnumber (d : iordnumber.In) : Tr iordnumber.Res :=
  .ite (spRok d.2.1.1 d.2.1.2.1 && (decide ((0 : Int) ≤ d.1.2.1) && decide (d.1.2.1 ≤ (8 : Int)))) (.ret (.ret (((spRd d.2.1.1 d.2.1.2.1 d.1.2.1.toNat).1, ((spRd d.2.1.1 d.2.1.2.1 d.1.2.1.toNat).2.2, ())), ((d.2.1.1, ((spRd d.2.1.1 d.2.1.2.1 d.1.2.1.toNat).2.1, ())), ())))) .no
noncomputable abbrev csrdnumber : List (Nat × Hc) := [(149, ioHd iordLeft FrdLeft)]
noncomputable def hdrdnumber : Hd := hdT csrdnumber
noncomputable abbrev lordnumber_6 : Lo := ⟨⟨[.one (.ptr 0 0), .one (.hol (.int IntKind.i64)), .any, .any, .any, .any, .one (.hol (.int IntKind.u64)), .any, .any, .any, .any, .any, .any, .any, .any, .any, .any, .any, .any, .any, .any, .any, .any, .any, .any, .any, .any, .one (.hol (.sl 5 (Ty.int IntKind.u8))), .one (.hol (.int IntKind.i64)), .one (.hol (.int IntKind.i64)), .any, .any, .any, .any, .any, .any, .any, .any, .any, .any, .any, .any, .any, .any, .any, .any, .any, .any], [some [.hol (.sl 5 (Ty.int IntKind.u8)), .hol (.int IntKind.i64)]]⟩, [(.exit 0, ⟨[.one (.ptr 0 0), .one (.hol (.int IntKind.i64)), .any, .any, .any, .any, .one (.hol (.int IntKind.u64)), .any, .any, .any, .any, .any, .any, .any, .any, .any, .any, .any, .any, .any, .any, .any, .any, .any, .any, .any, .any, .any, .any, .any, .any, .any, .any, .any, .any, .any, .any, .any, .any, .any, .any, .any, .any, .any, .any, .any, .any, .any], [some [.hol (.sl 5 (Ty.int IntKind.u8)), .hol (.int IntKind.i64)]]⟩)]⟩
-- Frdnumber_6 : lordnumber_6.st.den → Tr (DenX lordnumber_6.xs) | ((h3, (h4, (h5, (h6, (h7, ()))))), ((h8, (h9, ())), ()))
noncomputable def Frdnumber_6 (d : lordnumber_6.st.den) : Tr (DenX lordnumber_6.xs) :=
  .ite (decide (d.1.2.1 = 0) && (decide (d.1.2.2.2.2.1 = 0) && (decide (d.1.2.2.2.1 = (d.1.2.2.1.length : Int)) && decide (d.1.2.2.1.length ≤ 8)))) (.ret (.ret ((), ((d.1.1, (spBEv d.1.2.2.1, ())), (d.2.1, ()))))) .no
noncomputable def lprdnumber : Lp := lpT [(6, loHd lordnumber_6 Frdnumber_6)]
noncomputable def steprdnumber_6 {R : Type} (h3 : Int) (h4 : Int) (h5 : List Int) (h6 : Int) (h7 : Int) (h8 : List Int) (h9 : Int) (next : Int → Int → List Int → Int → Int → List Int → Int → Option R) (out : DenX lordnumber_6.xs → Option R) : Option R := bif decide (h7 < h6) then bif decide (0 ≤ h7) && decide (h7 < (↑h5.length : Int)) then next (h3) (spOr IntKind.u64 (spShl IntKind.u64 h4 8) (IntKind.u64.wrap (h5.getD h7.toNat 0))) (h5) (h6) (IntKind.i64.wrap (h7 + 1)) (h8) (h9) else none else out (.ret ((), ((h3, (h4, ())), ((h8, (h9, ())), ()))))
noncomputable def itrdnumber_6 (n : Nat) (h3 : Int) (h4 : Int) (h5 : List Int) (h6 : Int) (h7 : Int) (h8 : List Int) (h9 : Int) : Option (DenX lordnumber_6.xs) := lpN tt hdrdnumber dr lprdnumber 1 Go.Proofs.Tryz.f136 (topL Go.Proofs.Tryz.f136 0) n (lordnumber_6.st.mk' ((h3, (h4, (h5, (h6, (h7, ()))))), ((h8, (h9, ())), ()))) (decX lordnumber_6.xs)
theorem slrdnumber_6 (n : Nat) (h3 : Int) (h4 : Int) (h5 : List Int) (h6 : Int) (h7 : Int) (h8 : List Int) (h9 : Int) : itrdnumber_6 (n + 1) h3 h4 h5 h6 h7 h8 h9 = steprdnumber_6 h3 h4 h5 h6 h7 h8 h9 (itrdnumber_6 n) some := by kernel_rfl
theorem or_byte {v c : Int} (h0 : 0 ≤ v) (h1 : v < 72057594037927936) (h2 : 0 ≤ c) (h3 : c ≤ 255) : spOr .u64 (spShl .u64 v 8) (IntKind.u64.wrap c) = v * 256 + c := by
  have e1 : spShl .u64 v 8 = v * 256 := by
    show IntKind.wrap .u64 (v * 2 ^ 8) = _
    rw [show v * 2 ^ 8 = v * 256 by omega]
    exact wrap_id (k := .u64) (by simp [inR, IntKind.min, IntKind.max, IntKind.signed, IntKind.bits]; omega)
  have e0 : IntKind.u64.wrap c = c := wrap_id (k := .u64) (by simp [inR, IntKind.min, IntKind.max, IntKind.signed, IntKind.bits]; omega)
  rw [e1, e0]
  obtain ⟨v, rfl⟩ := toNat_of h0
  obtain ⟨c, rfl⟩ := toNat_of h2
  have e4 := Nat.two_pow_add_eq_or_of_lt (show c < 2 ^ 8 by omega) v
  show IntKind.wrap .u64 ((BitVec.ofInt 64 ((v : Int) * 256) ||| BitVec.ofInt 64 (c : Int)).toNat : Int) = _
  have e2 : (BitVec.ofInt 64 (c : Int)).toNat = c := by rw [BitVec.toNat_ofInt]; omega
  have e3 : (BitVec.ofInt 64 ((v : Int) * 256)).toNat = 2 ^ 8 * v := by rw [BitVec.toNat_ofInt]; omega
  rw [BitVec.toNat_or, e2, e3, ← e4]
  refine (wrap_id (k := .u64) ?_).trans ?_
  · simp [inR, IntKind.min, IntKind.max, IntKind.signed, IntKind.bits]; omega
  · omega
theorem spBEv_append (l : List Int) (c : Int) : spBEv (l ++ [c]) = spBEv l * 256 + c := by simp [spBEv]
theorem fold_bound : ∀ (l : List Int) (v : Int), (∀ c ∈ l, 0 ≤ c ∧ c ≤ 255) → 0 ≤ v → 0 ≤ l.foldl (fun v c => v * 256 + c) v ∧ l.foldl (fun v c => v * 256 + c) v < (v + 1) * 256 ^ l.length
  | [], v, _, h0 => ⟨h0, by simp; omega⟩
  | c :: l, v, h, h0 => by
    obtain ⟨h3, h4⟩ := h c (by simp)
    obtain ⟨h1, h2⟩ := fold_bound l (v * 256 + c) (fun d hd => h d (by simp [hd])) (by omega)
    refine ⟨h1, Int.lt_of_lt_of_le h2 ?_⟩
    rw [List.length_cons, Int.pow_succ, Int.mul_comm (256 ^ l.length) 256, ← Int.mul_assoc]
    exact Int.mul_le_mul_of_nonneg_right (by omega) (Int.le_of_lt (Int.pow_pos (by decide)))
theorem spBEv_bound (l : List Int) (h : ∀ c ∈ l, 0 ≤ c ∧ c ≤ 255) : 0 ≤ spBEv l ∧ spBEv l < 256 ^ l.length := by
  have := fold_bound l 0 h (Int.le_refl _)
  simpa [spBEv] using this
theorem looprdnumber (n : Int) (l b : List Int) (p : Int) (hl : l.length ≤ 8) (hr : ∀ c ∈ l, 0 ≤ c ∧ c ≤ 255) : ∀ (k i : Nat), l.length < i + k → i ≤ l.length →
    itrdnumber_6 k n (spBEv (l.take i)) l (l.length : Int) i b p = some (.ret ((), ((n, (spBEv l, ())), ((b, (p, ())), ())))) := by
  intro k
  induction k with
  | zero => intro i h; omega
  | succ k ih =>
    intro i h1 h2
    rw [slrdnumber_6]
    unfold steprdnumber_6
    by_cases hi : i < l.length
    · have hc := hr l[i] (List.getElem_mem hi)
      have hb := spBEv_bound (l.take i) fun c hc => hr c (List.mem_of_mem_take hc)
      have hlt : (256 : Int) ^ (l.take i).length ≤ 72057594037927936 := by
        rw [List.length_take, show min i l.length = i by omega]
        have hi7 : i ≤ 7 := by omega
        match i, hi7 with
        | 0, _ => decide
        | 1, _ => decide
        | 2, _ => decide
        | 3, _ => decide
        | 4, _ => decide
        | 5, _ => decide
        | 6, _ => decide
        | 7, _ => decide
      have e1 : List.getD l (i : Int).toNat 0 = l[i] := by simp only [Int.toNat_natCast, getD_lt hi]
      rw [bif_true (by simpa using hi), bif_true (by simpa using hi), e1, or_byte hb.1 (by omega) hc.1 hc.2, ← spBEv_append, ← List.take_succ_eq_append_getElem hi, wrap_succ hi (by rw [maxLen_eq]; omega), ih (i + 1) (by omega) (by omega)]
    · rw [bif_false (by simp; omega), List.take_of_length_le (by omega)]
noncomputable def bodyrdnumber (a0 : Int) (a1 : List Int) (a2 : Int) : Option iordnumber.Res := bif decide (IntKind.i64.wrap ((↑a1.length : Int) - a2) < a0) then some (Out.ret ((0, 1, ()), (a1, a2, ()), ())) else bif decide (0 ≤ a2) && (decide (a2 ≤ IntKind.i64.wrap (a2 + a0)) && decide (IntKind.i64.wrap (a2 + a0) ≤ (↑a1.length : Int))) then (Frdnumber_6 ((a0, (0, (List.drop a2.toNat (List.take (IntKind.i64.wrap (a2 + a0)).toNat a1), ((↑(List.drop a2.toNat (List.take (IntKind.i64.wrap (a2 + a0)).toNat a1)).length : Int), (0, ()))))), ((a1, (a2, ())), ()))).run fun y => match y with | .ret ((), ((x21, x22, ()), (x23, x24, ()), ())) => (some (Out.ret ((x22, 0, ()), (x23, IntKind.i64.wrap (x24 + x21), ()), ()))) else none
theorem runrdnumber (a0 : Int) (a1 : List Int) (a2 : Int) : Io.run tt hdrdnumber dr lprdnumber iordnumber Go.Proofs.Tryz.f136 (((), a0, ()), (a1, a2, ()), ()) = bodyrdnumber a0 a1 a2 := by kernel_rfl
theorem bs_range {b : List Int} (h : Ty.wf bs b) : ∀ c ∈ b, 0 ≤ c ∧ c ≤ 255 := fun c hc => by
  have := h.2 c hc
  simpa [Ty.wf, inR, IntKind.min, IntKind.max, IntKind.signed, IntKind.bits] using this
theorem okrdnumber : HcOk prog 136 (ioHd iordnumber Frdnumber) := by
  refine fn_sound (n := 400) hm (cs := csrdnumber) (.cons okrdLeft .nil) (lp := lprdnumber) (fn := Go.Proofs.Tryz.f136) (by kernel_rfl) (by kernel_rfl) (by kernel_rfl) iordnumber (.step (h0 := loHd lordnumber_6 Frdnumber_6) (by kernel_rfl) (loop_sound (n := 400) hm (cs := csrdnumber) (.cons okrdLeft .nil) (lp := lprdnumber) (fn := Go.Proofs.Tryz.f136) (.done (by kernel_rfl)) lordnumber_6 Frdnumber_6 ?_) (.done (by kernel_rfl))) Frdnumber ?_
  · rintro ⟨⟨(n : Int), (v : Int), (l : List Int), (m : Int), (i : Int), ⟨⟩⟩, ⟨⟨(b : List Int), (p : Int), ⟨⟩⟩, ⟨⟩⟩⟩ y hw hy
    obtain ⟨hg, hy⟩ := Tr.guard hy
    simp only [Bool.and_eq_true, decide_eq_true_eq] at hg
    obtain ⟨rfl, rfl, rfl, h4⟩ := hg
    refine ⟨l.length + 1, (looprdnumber n l b p h4 (bs_range hw.1.2.2.1) _ 0 (by omega) (by omega)).trans ?_⟩
    rw [← hy]; rfl
  · rintro ⟨⟨⟨⟩, (n : Int), ⟨⟩⟩, ⟨⟨(b : List Int), (p : Int), ⟨⟩⟩, ⟨⟩⟩⟩ out hw ho
    obtain ⟨hg, ho⟩ := Tr.guard ho
    simp only [spRok, Bool.and_eq_true, decide_eq_true_eq] at hg
    obtain ⟨⟨h1, h2, h3⟩, h4, h5⟩ := hg
    have h1 : b.length ≤ 4294960000 := h1
    have h2 : (0 : Int) ≤ p := h2
    have h3 : p ≤ (b.length : Int) := h3
    have h4 : (0 : Int) ≤ n := h4
    have h5 : n ≤ (8 : Int) := h5
    cases ho
    refine (runrdnumber n b p).trans ?_
    show _ = some (Out.ret (((spRd b p n.toNat).1, ((spRd b p n.toNat).2.2, ())), ((b, ((spRd b p n.toNat).2.1, ())), ())))
    unfold bodyrdnumber
    rw [wrap_i64 (n := (b.length : Int) - p) (by omega) (by omega), wrap_i64 (n := p + n) (by omega) (by omega)]
    unfold spRd
    by_cases hl : (b.length : Int) - p < n
    · rw [bif_true (by simpa using hl), if_pos (by omega)]
    · have e0 : List.drop p.toNat (List.take (p + n).toNat b) = (b.drop p.toNat).take n.toNat := by rw [List.drop_take, show (p + n).toNat - p.toNat = n.toNat by omega]
      rw [bif_false (by simpa using hl), if_neg (by omega), bif_true (by simp; omega), e0]
      have hl8 : ((b.drop p.toNat).take n.toNat).length ≤ 8 := by simp; omega
      have e1 : Frdnumber_6 ((n, (0, ((b.drop p.toNat).take n.toNat, ((((b.drop p.toNat).take n.toNat).length : Int), (0, ()))))), ((b, (p, ())), ())) = .ite true (.ret (.ret ((), ((n, (spBEv ((b.drop p.toNat).take n.toNat), ())), ((b, (p, ())), ()))))) .no :=
        congrArg (fun c => Tr.ite c _ _) (show (decide ((0 : Int) = 0) && (decide ((0 : Int) = 0) && (decide ((((b.drop p.toNat).take n.toNat).length : Int) = (((b.drop p.toNat).take n.toNat).length : Int)) && decide (((b.drop p.toNat).take n.toNat).length ≤ 8)))) = true by simp; omega)
      rw [e1]
      simp only [Tr.run, cond_true]
      rw [wrap_i64 (n := p + n) (by omega) (by omega), show ((n.toNat : Nat) : Int) = n by omega]

/-! ### (*leat/cursor.Reader).I16 -/
noncomputable abbrev iordI16 : Io := ⟨[.ptr 0 0], [oRr], [], [d16, dI], none⟩
noncomputable def FrdI16 (d : iordI16.In) : Tr iordI16.Res :=
  .ite (spRok d.2.1.1 d.2.1.2.1) (.ret (.ret ((IntKind.i16.wrap (spRd d.2.1.1 d.2.1.2.1 2).1, ((spRd d.2.1.1 d.2.1.2.1 2).2.2, ())), ((d.2.1.1, ((spRd d.2.1.1 d.2.1.2.1 2).2.1, ())), ())))) .no
noncomputable abbrev csrdI16 : List (Nat × Hc) := [(136, ioHd iordnumber Frdnumber)]
noncomputable def hdrdI16 : Hd := hdT csrdI16
noncomputable def lprdI16 : Lp := lpT []

noncomputable def bodyrdI16 (a0 : List Int) (a1 : Int) : Option iordI16.Res := bif spRok a0 a1 && (decide (0 ≤ 2) && decide (2 ≤ 8)) then some (Out.ret ((IntKind.i16.wrap (spRd a0 a1 (Int.toNat 2)).fst, (spRd a0 a1 (Int.toNat 2)).snd.snd, ()), (a0, (spRd a0 a1 (Int.toNat 2)).snd.fst, ()), ())) else none
theorem runrdI16 (a0 : List Int) (a1 : Int) : Io.run tt hdrdI16 dr lprdI16 iordI16 Go.Proofs.Tryz.f111 (((), ()), (a0, a1, ()), ()) = bodyrdI16 a0 a1 := by kernel_rfl
theorem okrdI16 : HcOk prog 111 (ioHd iordI16 FrdI16) := by
  refine fn_sound (n := 400) hm (cs := csrdI16) (.cons okrdnumber .nil) (lp := lprdI16) (fn := Go.Proofs.Tryz.f111) (by kernel_rfl) (by kernel_rfl) (by kernel_rfl) iordI16 (.done (by kernel_rfl)) FrdI16 ?_
  rintro ⟨⟨⟨⟩, ⟨⟩⟩, ⟨⟨(b : List Int), (p : Int), ⟨⟩⟩, ⟨⟩⟩⟩ out hw ho
  obtain ⟨hg, ho⟩ := Tr.guard ho
  have hg : spRok b p = true := hg
  cases ho
  refine (runrdI16 b p).trans ?_
  unfold bodyrdI16
  rw [bif_true (by simp [hg])]
  rfl

/-! ### (*leat/cursor.Reader).I32 -/
noncomputable abbrev iordI32 : Io := ⟨[.ptr 0 0], [oRr], [], [dS32, dI], none⟩
noncomputable def FrdI32 (d : iordI32.In) : Tr iordI32.Res :=
  .ite (spRok d.2.1.1 d.2.1.2.1) (.ret (.ret ((IntKind.i32.wrap (spRd d.2.1.1 d.2.1.2.1 4).1, ((spRd d.2.1.1 d.2.1.2.1 4).2.2, ())), ((d.2.1.1, ((spRd d.2.1.1 d.2.1.2.1 4).2.1, ())), ())))) .no
noncomputable abbrev csrdI32 : List (Nat × Hc) := [(136, ioHd iordnumber Frdnumber)]
noncomputable def hdrdI32 : Hd := hdT csrdI32
noncomputable def lprdI32 : Lp := lpT []

noncomputable def bodyrdI32 (a0 : List Int) (a1 : Int) : Option iordI32.Res := bif spRok a0 a1 && (decide (0 ≤ 4) && decide (4 ≤ 8)) then some (Out.ret ((IntKind.i32.wrap (spRd a0 a1 (Int.toNat 4)).fst, (spRd a0 a1 (Int.toNat 4)).snd.snd, ()), (a0, (spRd a0 a1 (Int.toNat 4)).snd.fst, ()), ())) else none
theorem runrdI32 (a0 : List Int) (a1 : Int) : Io.run tt hdrdI32 dr lprdI32 iordI32 Go.Proofs.Tryz.f113 (((), ()), (a0, a1, ()), ()) = bodyrdI32 a0 a1 := by kernel_rfl
theorem okrdI32 : HcOk prog 113 (ioHd iordI32 FrdI32) := by
  refine fn_sound (n := 400) hm (cs := csrdI32) (.cons okrdnumber .nil) (lp := lprdI32) (fn := Go.Proofs.Tryz.f113) (by kernel_rfl) (by kernel_rfl) (by kernel_rfl) iordI32 (.done (by kernel_rfl)) FrdI32 ?_
  rintro ⟨⟨⟨⟩, ⟨⟩⟩, ⟨⟨(b : List Int), (p : Int), ⟨⟩⟩, ⟨⟩⟩⟩ out hw ho
  obtain ⟨hg, ho⟩ := Tr.guard ho
  have hg : spRok b p = true := hg
  cases ho
  refine (runrdI32 b p).trans ?_
  unfold bodyrdI32
  rw [bif_true (by simp [hg])]
  rfl

/-! ### (*leat/cursor.Reader).I64 -/
noncomputable abbrev iordI64 : Io := ⟨[.ptr 0 0], [oRr], [], [d64s, dI], none⟩
noncomputable def FrdI64 (d : iordI64.In) : Tr iordI64.Res :=
  .ite (spRok d.2.1.1 d.2.1.2.1) (.ret (.ret ((IntKind.i64.wrap (spRd d.2.1.1 d.2.1.2.1 8).1, ((spRd d.2.1.1 d.2.1.2.1 8).2.2, ())), ((d.2.1.1, ((spRd d.2.1.1 d.2.1.2.1 8).2.1, ())), ())))) .no
noncomputable abbrev csrdI64 : List (Nat × Hc) := [(136, ioHd iordnumber Frdnumber)]
noncomputable def hdrdI64 : Hd := hdT csrdI64
noncomputable def lprdI64 : Lp := lpT []

noncomputable def bodyrdI64 (a0 : List Int) (a1 : Int) : Option iordI64.Res := bif spRok a0 a1 && (decide (0 ≤ 8) && decide (8 ≤ 8)) then some (Out.ret ((IntKind.i64.wrap (spRd a0 a1 (Int.toNat 8)).fst, (spRd a0 a1 (Int.toNat 8)).snd.snd, ()), (a0, (spRd a0 a1 (Int.toNat 8)).snd.fst, ()), ())) else none
theorem runrdI64 (a0 : List Int) (a1 : Int) : Io.run tt hdrdI64 dr lprdI64 iordI64 Go.Proofs.Tryz.f116 (((), ()), (a0, a1, ()), ()) = bodyrdI64 a0 a1 := by kernel_rfl
theorem okrdI64 : HcOk prog 116 (ioHd iordI64 FrdI64) := by
  refine fn_sound (n := 400) hm (cs := csrdI64) (.cons okrdnumber .nil) (lp := lprdI64) (fn := Go.Proofs.Tryz.f116) (by kernel_rfl) (by kernel_rfl) (by kernel_rfl) iordI64 (.done (by kernel_rfl)) FrdI64 ?_
  rintro ⟨⟨⟨⟩, ⟨⟩⟩, ⟨⟨(b : List Int), (p : Int), ⟨⟩⟩, ⟨⟩⟩⟩ out hw ho
  obtain ⟨hg, ho⟩ := Tr.guard ho
  have hg : spRok b p = true := hg
  cases ho
  refine (runrdI64 b p).trans ?_
  unfold bodyrdI64
  rw [bif_true (by simp [hg])]
  rfl

/-! ### (*leat/cursor.Reader).Skip -/
noncomputable abbrev iordSkip : Io := ⟨[.ptr 0 0, dI], [oRr], [], [dI], none⟩
noncomputable def FrdSkip (d : iordSkip.In) : Tr iordSkip.Res :=
  .ite (spRok d.2.1.1 d.2.1.2.1) (.ret (.ret (((spSkip d.2.1.1 d.2.1.2.1 d.1.2.1).2, ()), ((d.2.1.1, ((spSkip d.2.1.1 d.2.1.2.1 d.1.2.1).1, ())), ())))) .no
noncomputable abbrev csrdSkip : List (Nat × Hc) := [(149, ioHd iordLeft FrdLeft)]
noncomputable def hdrdSkip : Hd := hdT csrdSkip
noncomputable def lprdSkip : Lp := lpT []

noncomputable def bodyrdSkip (a0 : Int) (a1 : List Int) (a2 : Int) : Option iordSkip.Res := bif decide (a0 < 0) then some (Out.ret ((3, ()), (a1, a2, ()), ())) else bif decide (IntKind.i64.wrap ((↑a1.length : Int) - a2) < a0) then some (Out.ret ((1, ()), (a1, a2, ()), ())) else some (Out.ret ((0, ()), (a1, IntKind.i64.wrap (a2 + a0), ()), ()))
theorem runrdSkip (a0 : Int) (a1 : List Int) (a2 : Int) : Io.run tt hdrdSkip dr lprdSkip iordSkip Go.Proofs.Tryz.f150 (((), a0, ()), (a1, a2, ()), ()) = bodyrdSkip a0 a1 a2 := by kernel_rfl
theorem okrdSkip : HcOk prog 150 (ioHd iordSkip FrdSkip) := by
  refine fn_sound (n := 400) hm (cs := csrdSkip) (.cons okrdLeft .nil) (lp := lprdSkip) (fn := Go.Proofs.Tryz.f150) (by kernel_rfl) (by kernel_rfl) (by kernel_rfl) iordSkip (.done (by kernel_rfl)) FrdSkip ?_
  rintro ⟨⟨⟨⟩, (n : Int), ⟨⟩⟩, ⟨⟨(b : List Int), (p : Int), ⟨⟩⟩, ⟨⟩⟩⟩ out hw ho
  obtain ⟨hg, ho⟩ := Tr.guard ho
  simp only [spRok, Bool.and_eq_true, decide_eq_true_eq] at hg
  obtain ⟨h1, h2, h3⟩ := hg
  have h1 : b.length ≤ 4294960000 := h1
  have h2 : (0 : Int) ≤ p := h2
  have h3 : p ≤ (b.length : Int) := h3
  cases ho
  refine (runrdSkip n b p).trans ?_
  unfold bodyrdSkip spSkip
  rw [wrap_i64 (n := (b.length : Int) - p) (by omega) (by omega)]
  by_cases h4 : n < 0
  · rw [bif_true (by simpa using h4), if_pos h4]
  · rw [bif_false (by simpa using h4), if_neg h4]
    by_cases h5 : (b.length : Int) - p < n
    · rw [bif_true (by simpa using h5), if_pos h5]
    · rw [bif_false (by simpa using h5), if_neg h5, wrap_i64 (n := p + n) (by omega) (by omega)]

/-! ### (*leat/cursor.Reader).Take -/
noncomputable abbrev iordTake : Io := ⟨[.ptr 0 0, dI], [oRr], [], [dO, dI], none⟩
noncomputable def FrdTake (d : iordTake.In) : Tr iordTake.Res :=
  .ite (spRok d.2.1.1 d.2.1.2.1) (.ret (.ret (((spTakeB d.2.1.1 d.2.1.2.1 d.1.2.1).1, ((spTakeB d.2.1.1 d.2.1.2.1 d.1.2.1).2.2, ())), ((d.2.1.1, ((spTakeB d.2.1.1 d.2.1.2.1 d.1.2.1).2.1, ())), ())))) .no
noncomputable abbrev csrdTake : List (Nat × Hc) := [(150, ioHd iordSkip FrdSkip), (123, ioHd iopClone FpClone)]
noncomputable def hdrdTake : Hd := hdT csrdTake
noncomputable def lprdTake : Lp := lpT []

noncomputable def bodyrdTake (a0 : Int) (a1 : List Int) (a2 : Int) : Option iordTake.Res := bif spRok a1 a2 then bif (spSkip a1 a2 a0).snd != 0 then some (Out.ret (([], (spSkip a1 a2 a0).snd, ()), (a1, (spSkip a1 a2 a0).fst, ()), ())) else bif decide (0 ≤ a2) && (decide (a2 ≤ (spSkip a1 a2 a0).fst) && decide ((spSkip a1 a2 a0).fst ≤ (↑a1.length : Int))) then bif decide ((List.drop a2.toNat (List.take (spSkip a1 a2 a0).fst.toNat a1)).length ≤ 4294967296) then some (Out.ret ((List.drop a2.toNat (List.take (spSkip a1 a2 a0).fst.toNat a1), 0, ()), (a1, (spSkip a1 a2 a0).fst, ()), ())) else none else none else none
theorem runrdTake (a0 : Int) (a1 : List Int) (a2 : Int) : Io.run tt hdrdTake dr lprdTake iordTake Go.Proofs.Tryz.f139 (((), a0, ()), (a1, a2, ()), ()) = bodyrdTake a0 a1 a2 := by kernel_rfl
theorem okrdTake : HcOk prog 139 (ioHd iordTake FrdTake) := by
  refine fn_sound (n := 400) hm (cs := csrdTake) (.cons okrdSkip (.cons okpClone .nil)) (lp := lprdTake) (fn := Go.Proofs.Tryz.f139) (by kernel_rfl) (by kernel_rfl) (by kernel_rfl) iordTake (.done (by kernel_rfl)) FrdTake ?_
  rintro ⟨⟨⟨⟩, (n : Int), ⟨⟩⟩, ⟨⟨(b : List Int), (p : Int), ⟨⟩⟩, ⟨⟩⟩⟩ out hw ho
  obtain ⟨hg, ho⟩ := Tr.guard ho
  have hg0 : spRok b p = true := hg
  simp only [spRok, Bool.and_eq_true, decide_eq_true_eq] at hg
  obtain ⟨h1, h2, h3⟩ := hg
  have h1 : b.length ≤ 4294960000 := h1
  have h2 : (0 : Int) ≤ p := h2
  have h3 : p ≤ (b.length : Int) := h3
  cases ho
  refine (runrdTake n b p).trans ?_
  unfold bodyrdTake spTakeB spSkip
  rw [bif_true hg0]
  by_cases h4 : n < 0
  · simp [h4]
  · by_cases h5 : (b.length : Int) - p < n
    · simp [h4, h5]
    · have e0 : List.drop p.toNat (List.take (p + n).toNat b) = (b.drop p.toNat).take n.toNat := by rw [List.drop_take, show (p + n).toNat - p.toNat = n.toNat by omega]
      simp only [h4, h5, if_false, e0, bne_self_eq_false, cond_false]
      rw [bif_true (by simp; omega), bif_true (by simp; omega)]

/-! ### (*leat/cursor.Reader).End -/
noncomputable abbrev iordEnd : Io := ⟨[.ptr 0 0], [oRr], [], [dI], none⟩
noncomputable def FrdEnd (d : iordEnd.In) : Tr iordEnd.Res := .ret (.ret ((spEnd d.2.1.1 d.2.1.2.1, ()), (d.2.1, ())))
noncomputable abbrev csrdEnd : List (Nat × Hc) := []
noncomputable def hdrdEnd : Hd := hdT csrdEnd
noncomputable def lprdEnd : Lp := lpT []

noncomputable def bodyrdEnd (a0 : List Int) (a1 : Int) : Option iordEnd.Res := bif decide (a1 < (↑a0.length : Int)) then some (Out.ret ((2, ()), (a0, a1, ()), ())) else some (Out.ret ((0, ()), (a0, a1, ()), ()))
theorem runrdEnd (a0 : List Int) (a1 : Int) : Io.run tt hdrdEnd dr lprdEnd iordEnd Go.Proofs.Tryz.f83 (((), ()), (a0, a1, ()), ()) = bodyrdEnd a0 a1 := by kernel_rfl
theorem okrdEnd : HcOk prog 83 (ioHd iordEnd FrdEnd) := by
  refine fn_sound (n := 400) hm (cs := csrdEnd) HcsOk.nil (lp := lprdEnd) (fn := Go.Proofs.Tryz.f83) (by kernel_rfl) (by kernel_rfl) (by kernel_rfl) iordEnd (.done (by kernel_rfl)) FrdEnd ?_
  rintro ⟨⟨⟨⟩, ⟨⟩⟩, ⟨⟨(b : List Int), (p : Int), ⟨⟩⟩, ⟨⟩⟩⟩ out hw ho
  cases ho
  refine (runrdEnd b p).trans ?_
  unfold bodyrdEnd spEnd
  by_cases h : p < (b.length : Int)
  · rw [bif_true (by simpa using h), if_pos h]
  · rw [bif_false (by simpa using h), if_neg h]

/-! ### leat/cursor.NewReader -/
noncomputable abbrev iordNew : Io := ⟨[dL], [], [oRr], [.ptr 0 0], none⟩
noncomputable def FrdNew (d : iordNew.In) : Tr iordNew.Res := .ite (decide (d.1.1.length ≤ 4294967296)) (.ret (.ret (((), ()), ((d.1.1, (0, ())), ())))) .no
noncomputable abbrev csrdNew : List (Nat × Hc) := [(123, ioHd iopClone FpClone)]
noncomputable def hdrdNew : Hd := hdT csrdNew
noncomputable def lprdNew : Lp := lpT []

noncomputable def bodyrdNew (a0 : List Int) : Option iordNew.Res := bif decide (a0.length ≤ 4294967296) then some (Out.ret (((), ()), (a0, 0, ()), ())) else none
theorem runrdNew (a0 : List Int) : Io.run tt hdrdNew dr lprdNew iordNew Go.Proofs.Tryz.f81 ((a0, ()), ()) = bodyrdNew a0 := by kernel_rfl
theorem okrdNew : HcOk prog 81 (ioHd iordNew FrdNew) := by
  refine fn_sound (n := 400) hm (cs := csrdNew) (.cons okpClone .nil) (lp := lprdNew) (fn := Go.Proofs.Tryz.f81) (by kernel_rfl) (by kernel_rfl) (by kernel_rfl) iordNew (.done (by kernel_rfl)) FrdNew ?_
  rintro ⟨⟨(b : List Int), ⟨⟩⟩, ⟨⟩⟩ out hw ho
  obtain ⟨hg, ho⟩ := Tr.guard ho
  cases ho
  exact (runrdNew b).trans (bif_true hg _ _)
end
end Go.Proofs.YtmlgepgcofmpeaaGreat.Sym

/- leatref01.Fits, Digits, Number. -/
namespace Go.Proofs.YtmlgepgcofmpeaaGreat.Sym
open Go
set_option linter.unusedSimpArgs false
set_option linter.unusedVariables false
noncomputable section

/-! ### leat/leatref01.Fits -/
noncomputable def spFits (v n : Int) : Bool := if 8 ≤ n then true else if -(2 ^ (8 * n - 1).toNat) ≤ v ∧ v < 2 ^ (8 * n - 1).toNat then true else false
noncomputable abbrev ionFits : Io := ⟨[d64s, dI], [], [], [dB], none⟩
noncomputable def FnFits (d : ionFits.In) : Tr ionFits.Res := .ite (decide ((1 : Int) ≤ d.1.2.1)) (.ret (.ret ((spFits d.1.1 d.1.2.1, ()), ()))) .no
noncomputable abbrev csnFits : List (Nat × Hc) := []
noncomputable def hdnFits : Hd := hdT csnFits
noncomputable abbrev lonFits_6 : Lo := ⟨⟨[.one (.hol (.int IntKind.i64)), .one (.hol (.int IntKind.i64)), .any, .any, .any, .one (.hol (.int IntKind.i64)), .one (.hol (.int IntKind.i64)), .any, .any, .any, .any, .any, .any, .any, .any, .any, .any, .any, .any, .any, .any, .any, .any, .any, .any, .any, .any], []⟩, [(.exit 0, ⟨[.one (.hol (.int IntKind.i64)), .any, .any, .any, .any, .one (.hol (.int IntKind.i64)), .any, .any, .any, .any, .any, .any, .any, .any, .any, .any, .any, .any, .any, .any, .any, .any, .any, .any, .any, .any, .any], []⟩)]⟩
-- FnFits_6 : lonFits_6.st.den → Tr (DenX lonFits_6.xs) | ((h2, (h3, (h4, (h5, ())))), ())
noncomputable def FnFits_6 (d : lonFits_6.st.den) : Tr (DenX lonFits_6.xs) :=
  .ite (decide (d.1.2.2.1 = 1) && (decide (d.1.2.2.2.1 = 0) && (decide ((1 : Int) ≤ d.1.2.1) && decide (d.1.2.1 ≤ (7 : Int))))) (.ret (.ret ((), ((d.1.1, ((2 : Int) ^ (8 * d.1.2.1 - 1).toNat, ())), ())))) .no
noncomputable def lpnFits : Lp := lpT [(6, loHd lonFits_6 FnFits_6)]
noncomputable def stepnFits_6 {R : Type} (h2 : Int) (h3 : Int) (h4 : Int) (h5 : Int) (next : Int → Int → Int → Int → Option R) (out : DenX lonFits_6.xs → Option R) : Option R := bif decide (h5 < IntKind.i64.wrap (IntKind.i64.wrap (8 * h3) - 1)) then next (h2) (h3) (IntKind.i64.wrap (h4 * 2)) (IntKind.i64.wrap (h5 + 1)) else out (.ret ((), ((h2, (h4, ())), ())))
noncomputable def itnFits_6 (n : Nat) (h2 : Int) (h3 : Int) (h4 : Int) (h5 : Int) : Option (DenX lonFits_6.xs) := lpN tt hdnFits dr lpnFits 0 Go.Proofs.Tryz.f155 (topL Go.Proofs.Tryz.f155 0) n (lonFits_6.st.mk' ((h2, (h3, (h4, (h5, ())))), ())) (decX lonFits_6.xs)
theorem slnFits_6 (n : Nat) (h2 : Int) (h3 : Int) (h4 : Int) (h5 : Int) : itnFits_6 (n + 1) h2 h3 h4 h5 = stepnFits_6 h2 h3 h4 h5 (itnFits_6 n) some := by kernel_rfl
theorem two_pow_le {m : Nat} (h : m ≤ 56) : (1 : Int) ≤ 2 ^ m ∧ (2 : Int) ^ m ≤ 72057594037927936 := by
  constructor
  · have : (0 : Int) < 2 ^ m := Int.pow_pos (by decide)
    omega
  · have := Nat.pow_le_pow_right (show 0 < 2 by decide) h
    have e : ((2 ^ m : Nat) : Int) = (2 : Int) ^ m := by simp
    have e2 : (2 : Nat) ^ 56 = 72057594037927936 := by decide
    omega
theorem loopnFits (v : Int) {n : Int} (h0 : 1 ≤ n) (h1 : n ≤ 7) : ∀ (k j : Nat), (8 * n - 1).toNat < j + k → j ≤ (8 * n - 1).toNat →
    itnFits_6 k v n ((2 : Int) ^ j) j = some (.ret ((), ((v, ((2 : Int) ^ (8 * n - 1).toNat, ())), ()))) := by
  intro k
  induction k with
  | zero => intro j h; omega
  | succ k ih =>
    intro j h2 h3
    rw [slnFits_6]
    unfold stepnFits_6
    rw [wrap_i64 (n := 8 * n) (by omega) (by omega), wrap_i64 (n := 8 * n - 1) (by omega) (by omega)]
    by_cases hj : (j : Int) < 8 * n - 1
    · refine (bif_true (by simpa using hj) _ _).trans ?_
      have hp := two_pow_le (m := j + 1) (by omega)
      have hp0 := two_pow_le (m := j) (by omega)
      have e : (2 : Int) ^ j * 2 = 2 ^ (j + 1) := (Int.pow_succ 2 j).symm
      rw [e, wrap_i64 (n := (2 : Int) ^ (j + 1)) (by omega) (by omega), wrap_i64 (n := (j : Int) + 1) (by omega) (by omega)]
      exact ih (j + 1) (by omega) (by omega)
    · refine (bif_false (by simpa using hj) _ _).trans ?_
      have e : j = (8 * n - 1).toNat := by omega
      rw [← e]
noncomputable def bodynFits (a0 : Int) (a1 : Int) : Option ionFits.Res := bif decide (8 ≤ a1) then some (Out.ret ((true, ()), ())) else (FnFits_6 ((a0, (a1, (1, (0, ())))), ())).run fun y => match y with | .ret ((), ((x12, x13, ()), ())) => (bif decide (IntKind.i64.wrap (0 - x13) ≤ x12) then some (Out.ret ((decide (x12 < x13), ()), ())) else some (Out.ret ((false, ()), ())))
theorem runnFits (a0 : Int) (a1 : Int) : Io.run tt hdnFits dr lpnFits ionFits Go.Proofs.Tryz.f155 ((a0, a1, ()), ()) = bodynFits a0 a1 := by kernel_rfl
theorem oknFits : HcOk prog 155 (ioHd ionFits FnFits) := by
  refine fn_sound (n := 400) hm (cs := csnFits) HcsOk.nil (lp := lpnFits) (fn := Go.Proofs.Tryz.f155) (by kernel_rfl) (by kernel_rfl) (by kernel_rfl) ionFits (.step (h0 := loHd lonFits_6 FnFits_6) (by kernel_rfl) (loop_sound (n := 400) hm (cs := csnFits) HcsOk.nil (lp := lpnFits) (fn := Go.Proofs.Tryz.f155) (.done (by kernel_rfl)) lonFits_6 FnFits_6 ?_) (.done (by kernel_rfl))) FnFits ?_
  · rintro ⟨⟨(v : Int), (n : Int), (a : Int), (i : Int), ⟨⟩⟩, ⟨⟩⟩ y hw hy
    obtain ⟨hg, hy⟩ := Tr.guard hy
    simp only [Bool.and_eq_true, decide_eq_true_eq] at hg
    obtain ⟨h1, h2, h3, h4⟩ := hg
    have h1 : a = 1 := h1
    have h2 : i = 0 := h2
    have h3 : (1 : Int) ≤ n := h3
    have h4 : n ≤ (7 : Int) := h4
    subst h1
    subst h2
    refine ⟨(8 * n - 1).toNat + 1, (loopnFits v h3 h4 ((8 * n - 1).toNat + 1) 0 (by omega) (by omega)).trans ?_⟩
    rw [← hy]; rfl
  · rintro ⟨⟨(v : Int), (n : Int), ⟨⟩⟩, ⟨⟩⟩ out hw ho
    obtain ⟨hg, ho⟩ := Tr.guard ho
    have hg : (1 : Int) ≤ n := of_decide_eq_true hg
    cases ho
    refine (runnFits v n).trans ?_
    unfold bodynFits
    show _ = some (Out.ret ((spFits v n, ()), ()))
    unfold spFits
    by_cases h8 : 8 ≤ n
    · rw [if_pos h8]
      exact bif_true (by simpa using h8) _ _
    · rw [if_neg h8]
      refine (bif_false (by simpa using h8) _ _).trans ?_
      have c1 : (decide ((1 : Int) = 1) && (decide ((0 : Int) = 0) && (decide ((1 : Int) ≤ n) && decide (n ≤ (7 : Int))))) = true := by simp; omega
      have e1 : FnFits_6 ((v, (n, (1, (0, ())))), ()) = .ite true (.ret (.ret ((), ((v, ((2 : Int) ^ (8 * n - 1).toNat, ())), ())))) .no := congrArg (fun c => Tr.ite c _ _) c1
      rw [e1]
      have hp := two_pow_le (m := (8 * n - 1).toNat) (by omega)
      show (bif decide (IntKind.i64.wrap (0 - (2 : Int) ^ (8 * n - 1).toNat) ≤ v) then some (Out.ret ((decide (v < (2 : Int) ^ (8 * n - 1).toNat), ()), ())) else some (Out.ret ((false, ()), ()))) = _
      generalize (2 : Int) ^ (8 * n - 1).toNat = m at hp ⊢
      rw [wrap_i64 (n := 0 - m) (by omega) (by omega)]
      by_cases h1 : 0 - m ≤ v
      · refine (bif_true (by simpa using h1) _ _).trans ?_
        by_cases h2 : v < m
        · rw [if_pos ⟨by omega, h2⟩, decide_eq_true h2]
        · rw [if_neg (by omega), decide_eq_false h2]
      · refine (bif_false (by simpa using h1) _ _).trans ?_
        rw [if_neg (by omega)]

/-! ### leat/leatref01.Digits -/
noncomputable abbrev ionDigits : Io := ⟨[d64s, dI], [], [], [dO], none⟩
noncomputable def FnDigits (d : ionDigits.In) : Tr ionDigits.Res := .ite (decide ((0 : Int) ≤ d.1.2.1) && decide (d.1.2.1 ≤ (8 : Int))) (.ret (.ret ((spBE d.1.1 d.1.2.1.toNat, ()), ()))) .no
noncomputable abbrev csnDigits : List (Nat × Hc) := []
noncomputable def hdnDigits : Hd := hdT csnDigits
noncomputable abbrev lonDigits_4 : Lo := ⟨⟨[.one (.hol (.int IntKind.i64)), .one (.hol (.int IntKind.i64)), .any, .any, .any, .one (.onl 5 (Ty.int IntKind.u8) 11), .one (.hol (.int IntKind.i64)), .any, .any, .any, .any, .any, .any, .any, .any, .any, .any, .any, .any, .any, .any, .any, .any, .any, .any, .any, .any, .any, .any, .any, .any, .any, .any, .any, .any, .any, .any, .any, .any, .any, .any, .any, .any, .any, .any, .any], []⟩, [(.exit 0, ⟨[.any, .one (.hol (.int IntKind.i64)), .any, .any, .any, .one (.onl 5 (Ty.int IntKind.u8) 11), .any, .any, .any, .any, .any, .any, .any, .any, .any, .any, .any, .any, .any, .any, .any, .any, .any, .any, .any, .any, .any, .any, .any, .any, .any, .any, .any, .any, .any, .any, .any, .any, .any, .any, .any, .any, .any, .any, .any, .any], []⟩)]⟩
-- FnDigits_4 : lonDigits_4.st.den → Tr (DenX lonDigits_4.xs) | ((h2, (h3, (h4, (h5, ())))), ())
noncomputable abbrev lonDigits_13 : Lo := ⟨⟨[.any, .any, .any, .any, .any, .one (.onl 5 (Ty.int IntKind.u8) 11), .any, .any, .one (.onl 5 (Ty.int IntKind.u8) 17), .one (.hol (.int IntKind.i64)), .any, .any, .any, .any, .any, .any, .any, .any, .any, .any, .any, .any, .any, .any, .any, .any, .any, .any, .any, .any, .any, .any, .any, .any, .any, .any, .any, .any, .any, .any, .any, .any, .any, .any, .any, .any], []⟩, [(.exit 2, ⟨[.any, .any, .any, .any, .any, .any, .any, .any, .one (.onl 5 (Ty.int IntKind.u8) 17), .any, .any, .any, .any, .any, .any, .any, .any, .any, .any, .any, .any, .any, .any, .any, .any, .any, .any, .any, .any, .any, .any, .any, .any, .any, .any, .any, .any, .any, .any, .any, .any, .any, .any, .any, .any, .any], []⟩)]⟩
-- FnDigits_13 : lonDigits_13.st.den → Tr (DenX lonDigits_13.xs) | ((h18, (h19, (h20, ()))), ())
/-- The n lowest bytes, the lowest first. -/
def spLow (v : Int) : Nat → List Int
  | 0 => []
  | n + 1 => v % 256 :: spLow (v / 256) n
noncomputable def FnDigits_4 (d : lonDigits_4.st.den) : Tr (DenX lonDigits_4.xs) :=
  .ite (decide (d.1.2.2.1.length = 0) && (decide (d.1.2.2.2.1 = 0) && (decide ((0 : Int) ≤ d.1.2.1) && decide (d.1.2.1 ≤ (8 : Int))))) (.ret (.ret ((), ((d.1.2.1, (spLow d.1.1 d.1.2.1.toNat, ())), ())))) .no
noncomputable def FnDigits_13 (d : lonDigits_13.st.den) : Tr (DenX lonDigits_13.xs) :=
  .ite (decide (d.1.2.1.length = 0) && (decide (d.1.2.2.1 = (d.1.1.length : Int) - 1) && decide (d.1.1.length ≤ 8))) (.ret (.ret ((), ((d.1.1.reverse, ()), ())))) .no
noncomputable def lpnDigits : Lp := lpT [(4, loHd lonDigits_4 FnDigits_4), (13, loHd lonDigits_13 FnDigits_13)]
noncomputable def stepnDigits_4 {R : Type} (h2 : Int) (h3 : Int) (h4 : List Int) (h5 : Int) (next : Int → Int → List Int → Int → Option R) (out : DenX lonDigits_4.xs → Option R) : Option R := bif decide (h5 < h3) then bif decide (IntKind.i64.wrap (h2.tmod 256) < 0) then bif decide (h4.length + [IntKind.u8.wrap (IntKind.i64.wrap (IntKind.i64.wrap (h2.tmod 256) + 256))].length ≤ 4294967296) then next (IntKind.i64.wrap ((IntKind.i64.wrap (h2 - IntKind.i64.wrap (IntKind.i64.wrap (h2.tmod 256) + 256))).tdiv 256)) (h3) (h4 ++ [IntKind.u8.wrap (IntKind.i64.wrap (IntKind.i64.wrap (h2.tmod 256) + 256))]) (IntKind.i64.wrap (h5 + 1)) else none else bif decide (h4.length + [IntKind.u8.wrap (IntKind.i64.wrap (h2.tmod 256))].length ≤ 4294967296) then next (IntKind.i64.wrap ((IntKind.i64.wrap (h2 - IntKind.i64.wrap (h2.tmod 256))).tdiv 256)) (h3) (h4 ++ [IntKind.u8.wrap (IntKind.i64.wrap (h2.tmod 256))]) (IntKind.i64.wrap (h5 + 1)) else none else out (.ret ((), ((h3, (h4, ())), ())))
noncomputable def itnDigits_4 (n : Nat) (h2 : Int) (h3 : Int) (h4 : List Int) (h5 : Int) : Option (DenX lonDigits_4.xs) := lpN tt hdnDigits dr lpnDigits 0 Go.Proofs.Tryz.f156 (topL Go.Proofs.Tryz.f156 0) n (lonDigits_4.st.mk' ((h2, (h3, (h4, (h5, ())))), ())) (decX lonDigits_4.xs)
theorem slnDigits_4 (n : Nat) (h2 : Int) (h3 : Int) (h4 : List Int) (h5 : Int) : itnDigits_4 (n + 1) h2 h3 h4 h5 = stepnDigits_4 h2 h3 h4 h5 (itnDigits_4 n) some := by kernel_rfl
noncomputable def stepnDigits_13 {R : Type} (h18 : List Int) (h19 : List Int) (h20 : Int) (next : List Int → List Int → Int → Option R) (out : DenX lonDigits_13.xs → Option R) : Option R := bif decide (0 ≤ h20) then bif decide (0 ≤ h20) && decide (h20 < (↑h18.length : Int)) then bif decide (h19.length + [h18.getD h20.toNat 0].length ≤ 4294967296) then next (h18) (h19 ++ [h18.getD h20.toNat 0]) (IntKind.i64.wrap (h20 - 1)) else none else none else out (.ret ((), ((h19, ()), ())))
noncomputable def itnDigits_13 (n : Nat) (h18 : List Int) (h19 : List Int) (h20 : Int) : Option (DenX lonDigits_13.xs) := lpN tt hdnDigits dr lpnDigits 0 Go.Proofs.Tryz.f156 (topL Go.Proofs.Tryz.f156 1) n (lonDigits_13.st.mk' ((h18, (h19, (h20, ()))), ())) (decX lonDigits_13.xs)
theorem slnDigits_13 (n : Nat) (h18 : List Int) (h19 : List Int) (h20 : Int) : itnDigits_13 (n + 1) h18 h19 h20 = stepnDigits_13 h18 h19 h20 (itnDigits_13 n) some := by kernel_rfl
theorem tmod_256 (v : Int) : (v.tmod 256 < 0 → v.tmod 256 + 256 = v % 256) ∧ (¬ v.tmod 256 < 0 → v.tmod 256 = v % 256) := by
  by_cases h : 0 ≤ v
  · rw [Int.tmod_eq_emod_of_nonneg h]; omega
  · obtain ⟨u, rfl⟩ : ∃ u, v = -u := ⟨-v, by omega⟩
    rw [Int.neg_tmod, Int.tmod_eq_emod_of_nonneg (by omega)]; omega
theorem tdiv_256 (v : Int) : (v - v % 256).tdiv 256 = v / 256 := by
  have e : v - v % 256 = v / 256 * 256 := by omega
  rw [e, Int.mul_tdiv_cancel _ (by decide)]
theorem wrap_u8 {n : Int} (h0 : 0 ≤ n) (h1 : n < 256) : IntKind.u8.wrap n = n := wrap_id (by simp [inR, IntKind.min, IntKind.max, IntKind.signed, IntKind.bits]; omega)
theorem loopnDigits_4 {m : Nat} (hm : m ≤ 8) : ∀ (k j : Nat) (v : Int) (acc : List Int), m < j + k → j ≤ m → acc.length = j → -9223372036854775808 ≤ v → v ≤ 9223372036854775807 →
    itnDigits_4 k v (m : Int) acc j = some (.ret ((), (((m : Int), (acc ++ spLow v (m - j), ())), ()))) := by
  intro k
  induction k with
  | zero => intro j v acc h; omega
  | succ k ih =>
    intro j v acc h1 h2 h3 h4 h5
    rw [slnDigits_4]
    unfold stepnDigits_4
    by_cases hj : j < m
    · refine (bif_true (decide_eq_true (show (j : Int) < (m : Int) by omega)) _ _).trans ?_
      have ht := tmod_256 v
      have hd : ∀ x : Int, x = v % 256 → itnDigits_4 k (IntKind.i64.wrap ((IntKind.i64.wrap (v - x)).tdiv 256)) (m : Int) (acc ++ [IntKind.u8.wrap x]) (IntKind.i64.wrap ((j : Int) + 1)) = some (.ret ((), (((m : Int), (acc ++ spLow v (m - j), ())), ()))) := by
        rintro x rfl
        rw [wrap_i64 (n := v - v % 256) (by omega) (by omega), tdiv_256, wrap_i64 (n := v / 256) (by omega) (by omega), wrap_i64 (n := (j : Int) + 1) (by omega) (by omega), wrap_u8 (n := v % 256) (by omega) (by omega)]
        refine (ih (j + 1) (v / 256) (acc ++ [v % 256]) (by omega) (by omega) (by simp [h3]) (by omega) (by omega)).trans ?_
        obtain ⟨q, hq⟩ : ∃ q, m - j = q + 1 := ⟨m - j - 1, by omega⟩
        rw [hq, show m - (j + 1) = q by omega, spLow]
        simp
      have hr : -256 ≤ v.tmod 256 ∧ v.tmod 256 < 256 := by
        by_cases h : v.tmod 256 < 0
        · have := ht.1 h; omega
        · have := ht.2 h; omega
      rw [wrap_i64 (n := v.tmod 256) (by omega) (by omega), wrap_i64 (n := v.tmod 256 + 256) (by omega) (by omega)]
      by_cases hn : v.tmod 256 < 0
      · refine (bif_true (by simpa using hn) _ _).trans ?_
        refine (bif_true (decide_eq_true (show acc.length + 1 ≤ 4294967296 by omega)) _ _).trans ?_
        exact hd _ (ht.1 hn)
      · refine (bif_false (by simpa using hn) _ _).trans ?_
        refine (bif_true (decide_eq_true (show acc.length + 1 ≤ 4294967296 by omega)) _ _).trans ?_
        exact hd _ (ht.2 hn)
    · refine (bif_false (decide_eq_false (show ¬ (j : Int) < (m : Int) by omega)) _ _).trans ?_
      rw [show m - j = 0 by omega, spLow]
      simp
theorem loopnDigits_13 {low : List Int} (hl : low.length ≤ 8) : ∀ (j : Nat) (acc : List Int), j ≤ low.length → acc.length + j ≤ 8 →
    itnDigits_13 (j + 1) low acc ((j : Int) - 1) = some (.ret ((), ((acc ++ (low.take j).reverse, ()), ()))) := by
  intro j
  induction j with
  | zero =>
    intro acc h1 h2
    rw [slnDigits_13]
    unfold stepnDigits_13
    refine (bif_false (by decide) _ _).trans ?_
    simp
  | succ j ih =>
    intro acc h1 h2
    rw [slnDigits_13]
    unfold stepnDigits_13
    rw [show ((j + 1 : Nat) : Int) - 1 = (j : Int) by omega]
    have hg : List.getD low j (0 : Int) = low[j]'(by omega) := getD_lt (by omega)
    refine (bif_true (by simp) _ _).trans ?_
    refine (bif_true (by simp; omega) _ _).trans ?_
    simp only [Int.toNat_natCast, hg]
    refine (bif_true (decide_eq_true (show acc.length + 1 ≤ 4294967296 by omega)) _ _).trans ?_
    rw [wrap_i64 (n := (j : Int) - 1) (by omega) (by omega)]
    refine (ih (acc ++ [low[j]'(by omega)]) (by omega) (by simp; omega)).trans ?_
    rw [List.take_succ_eq_append_getElem (by omega), List.reverse_append, List.reverse_singleton, List.append_assoc]
theorem spLow_len (v : Int) : ∀ n, (spLow v n).length = n := by
  intro n
  induction n generalizing v with
  | zero => rfl
  | succ n ih => rw [spLow, List.length_cons, ih]
theorem spLow_snoc : ∀ (n : Nat) (v : Int), spLow v (n + 1) = spLow v n ++ [(v / 256 ^ n) % 256]
  | 0, v => by simp [spLow]
  | n + 1, v => by
    rw [spLow, spLow_snoc n (v / 256), spLow]
    have e : v / 256 / 256 ^ n = v / 256 ^ (n + 1) := by
      rw [Int.pow_succ, Int.mul_comm, Int.ediv_ediv_of_nonneg (by decide)]
    rw [e]; rfl
theorem spLow_rev (v : Int) : ∀ n, (spLow v n).reverse = spBE v n
  | 0 => rfl
  | n + 1 => by rw [spLow_snoc, List.reverse_append, spLow_rev v n]; rfl
noncomputable def bodynDigits (a0 : Int) (a1 : Int) : Option ionDigits.Res := (FnDigits_4 ((a0, (a1, ([], (0, ())))), ())).run fun y => match y with | .ret ((), ((x16, x17, ()), ())) => ((FnDigits_13 ((x17, ([], (IntKind.i64.wrap (x16 - 1), ()))), ())).run fun y => match y with | .ret ((), ((x25, ()), ())) => (some (Out.ret ((x25, ()), ()))))
theorem runnDigits (a0 : Int) (a1 : Int) : Io.run tt hdnDigits dr lpnDigits ionDigits Go.Proofs.Tryz.f156 ((a0, a1, ()), ()) = bodynDigits a0 a1 := by kernel_rfl
theorem oknDigits : HcOk prog 156 (ioHd ionDigits FnDigits) := by
  refine fn_sound (n := 400) hm (cs := csnDigits) HcsOk.nil (lp := lpnDigits) (fn := Go.Proofs.Tryz.f156) (by kernel_rfl) (by kernel_rfl) (by kernel_rfl) ionDigits (.step (h0 := loHd lonDigits_4 FnDigits_4) (by kernel_rfl) (loop_sound (n := 400) hm (cs := csnDigits) HcsOk.nil (lp := lpnDigits) (fn := Go.Proofs.Tryz.f156) (.done (by kernel_rfl)) lonDigits_4 FnDigits_4 ?_) (.step (h0 := loHd lonDigits_13 FnDigits_13) (by kernel_rfl) (loop_sound (n := 400) hm (cs := csnDigits) HcsOk.nil (lp := lpnDigits) (fn := Go.Proofs.Tryz.f156) (.done (by kernel_rfl)) lonDigits_13 FnDigits_13 ?_) (.done (by kernel_rfl)))) FnDigits ?_
  · rintro ⟨⟨(v : Int), (m : Int), (acc : List Int), (i : Int), ⟨⟩⟩, ⟨⟩⟩ y hw hy
    obtain ⟨hg, hy⟩ := Tr.guard hy
    simp only [Bool.and_eq_true, decide_eq_true_eq] at hg
    obtain ⟨h1, h2, h3, h4⟩ := hg
    have h1 : acc = [] := List.eq_nil_of_length_eq_zero h1
    have h2 : i = 0 := h2
    have h3 : (0 : Int) ≤ m := h3
    have h4 : m ≤ (8 : Int) := h4
    subst h1
    subst h2
    obtain ⟨m, rfl⟩ := toNat_of h3
    have hv : inR .i64 v := hw.1.1
    simp only [inR, IntKind.min, IntKind.max, IntKind.signed, IntKind.bits] at hv
    simp at hv
    refine ⟨m + 1, (loopnDigits_4 (m := m) (by omega) (m + 1) 0 v [] (by omega) (by omega) rfl (by omega) (by omega)).trans ?_⟩
    rw [← hy]; rfl
  · rintro ⟨⟨(low : List Int), (acc : List Int), (i : Int), ⟨⟩⟩, ⟨⟩⟩ y hw hy
    obtain ⟨hg, hy⟩ := Tr.guard hy
    simp only [Bool.and_eq_true, decide_eq_true_eq] at hg
    obtain ⟨h1, h2, h3⟩ := hg
    have h1 : acc = [] := List.eq_nil_of_length_eq_zero h1
    have h2 : i = (low.length : Int) - 1 := h2
    have h3 : low.length ≤ 8 := h3
    subst h1
    subst h2
    refine ⟨low.length + 1, (loopnDigits_13 h3 low.length [] (by omega) (by simpa using h3)).trans ?_⟩
    rw [← hy, List.take_length]; rfl
  · rintro ⟨⟨(v : Int), (m : Int), ⟨⟩⟩, ⟨⟩⟩ out hw ho
    obtain ⟨hg, ho⟩ := Tr.guard ho
    simp only [Bool.and_eq_true, decide_eq_true_eq] at hg
    obtain ⟨h5, h6⟩ := hg
    have h5 : (0 : Int) ≤ m := h5
    have h6 : m ≤ (8 : Int) := h6
    cases ho
    refine (runnDigits v m).trans ?_
    unfold bodynDigits
    have c1 : (decide (([] : List Int).length = 0) && (decide ((0 : Int) = 0) && (decide ((0 : Int) ≤ m) && decide (m ≤ (8 : Int))))) = true := by simp; omega
    have e1 : FnDigits_4 ((v, (m, ([], (0, ())))), ()) = .ite true (.ret (.ret ((), ((m, (spLow v m.toNat, ())), ())))) .no := congrArg (fun c => Tr.ite c _ _) c1
    rw [e1]
    show (FnDigits_13 ((spLow v m.toNat, ([], (IntKind.i64.wrap (m - 1), ()))), ())).run _ = _
    rw [wrap_i64 (n := m - 1) (by omega) (by omega)]
    have c2 : (decide (([] : List Int).length = 0) && (decide (m - 1 = ((spLow v m.toNat).length : Int) - 1) && decide ((spLow v m.toNat).length ≤ 8))) = true := by
      rw [spLow_len]; simp; omega
    have e2 : FnDigits_13 ((spLow v m.toNat, ([], (m - 1, ()))), ()) = .ite true (.ret (.ret ((), (((spLow v m.toNat).reverse, ()), ())))) .no := congrArg (fun c => Tr.ite c _ _) c2
    rw [e2, spLow_rev]
    rfl

/-! ### leat/leatref01.Number -/
/-- Two's complement, the highest first. -/
def spSgn (l : List Int) : Int := match l with
  | [] => 0
  | c :: l => l.foldl (fun v c => v * 256 + c) (if 128 ≤ c then c - 256 else c)
noncomputable def spNumber (b : List Int) (at_ n : Int) : Int × Bool := if at_ < 0 ∨ (b.length : Int) < at_ ∨ (b.length : Int) - at_ < n then (0, false) else (spSgn ((b.drop at_.toNat).take n.toNat), true)
noncomputable abbrev ionNumber : Io := ⟨[dL, dI, dI], [], [], [d64s, dB], none⟩
noncomputable def FnNumber (d : ionNumber.In) : Tr ionNumber.Res := .ite (decide ((0 : Int) ≤ d.1.2.2.1) && decide (d.1.2.2.1 ≤ (8 : Int))) (.ret (.ret (((spNumber d.1.1 d.1.2.1 d.1.2.2.1).1, ((spNumber d.1.1 d.1.2.1 d.1.2.2.1).2, ())), ()))) .no
noncomputable abbrev csnNumber : List (Nat × Hc) := []
noncomputable def hdnNumber : Hd := hdT csnNumber
noncomputable abbrev lonNumber_6 : Lo := ⟨⟨[.one (.hol (.sl 5 (Ty.int IntKind.u8))), .one (.hol (.int IntKind.i64)), .one (.hol (.int IntKind.i64)), .any, .any, .any, .any, .any, .one (.hol (.int IntKind.i64)), .one (.hol (.int IntKind.i64)), .any, .any, .any, .any, .any, .any, .any, .any, .any, .any, .any, .any, .any, .any, .any, .any, .any, .any, .any, .any, .any, .any, .any, .any, .any, .any, .any, .any, .any, .any, .any, .any, .any, .any, .any, .any, .any, .any, .any, .any, .any, .any], []⟩, [(.exit 0, ⟨[.any, .any, .any, .any, .any, .any, .any, .any, .one (.hol (.int IntKind.i64)), .any, .any, .any, .any, .any, .any, .any, .any, .any, .any, .any, .any, .any, .any, .any, .any, .any, .any, .any, .any, .any, .any, .any, .any, .any, .any, .any, .any, .any, .any, .any, .any, .any, .any, .any, .any, .any, .any, .any, .any, .any, .any, .any], []⟩)]⟩
-- FnNumber_6 : lonNumber_6.st.den → Tr (DenX lonNumber_6.xs) | ((h3, (h4, (h5, (h6, (h7, ()))))), ())
noncomputable def FnNumber_6 (d : lonNumber_6.st.den) : Tr (DenX lonNumber_6.xs) :=
  .ite (decide (d.1.2.2.2.1 = 0) && (decide (d.1.2.2.2.2.1 = 0) && ((decide ((0 : Int) ≤ d.1.2.1) && decide (d.1.2.1 + d.1.2.2.1 ≤ (d.1.1.length : Int))) && (decide ((0 : Int) ≤ d.1.2.2.1) && decide (d.1.2.2.1 ≤ (8 : Int)))))) (.ret (.ret ((), ((spSgn ((d.1.1.drop d.1.2.1.toNat).take d.1.2.2.1.toNat), ()), ())))) .no
noncomputable def lpnNumber : Lp := lpT [(6, loHd lonNumber_6 FnNumber_6)]
noncomputable def stepnNumber_6 {R : Type} (h3 : List Int) (h4 : Int) (h5 : Int) (h6 : Int) (h7 : Int) (next : List Int → Int → Int → Int → Int → Option R) (out : DenX lonNumber_6.xs → Option R) : Option R := bif decide (h7 < h5) then bif decide (0 ≤ IntKind.i64.wrap (h4 + h7)) && decide (IntKind.i64.wrap (h4 + h7) < (↑h3.length : Int)) then bif h7 == 0 then bif decide (128 ≤ IntKind.i64.wrap (h3.getD (IntKind.i64.wrap (h4 + h7)).toNat 0)) then next (h3) (h4) (h5) (IntKind.i64.wrap (IntKind.i64.wrap (h6 * 256) + IntKind.i64.wrap (IntKind.i64.wrap (h3.getD (IntKind.i64.wrap (h4 + h7)).toNat 0) - 256))) (IntKind.i64.wrap (h7 + 1)) else next (h3) (h4) (h5) (IntKind.i64.wrap (IntKind.i64.wrap (h6 * 256) + IntKind.i64.wrap (h3.getD (IntKind.i64.wrap (h4 + h7)).toNat 0))) (IntKind.i64.wrap (h7 + 1)) else next (h3) (h4) (h5) (IntKind.i64.wrap (IntKind.i64.wrap (h6 * 256) + IntKind.i64.wrap (h3.getD (IntKind.i64.wrap (h4 + h7)).toNat 0))) (IntKind.i64.wrap (h7 + 1)) else none else out (.ret ((), ((h6, ()), ())))
noncomputable def itnNumber_6 (n : Nat) (h3 : List Int) (h4 : Int) (h5 : Int) (h6 : Int) (h7 : Int) : Option (DenX lonNumber_6.xs) := lpN tt hdnNumber dr lpnNumber 0 Go.Proofs.Tryz.f158 (topL Go.Proofs.Tryz.f158 0) n (lonNumber_6.st.mk' ((h3, (h4, (h5, (h6, (h7, ()))))), ())) (decX lonNumber_6.xs)
theorem slnNumber_6 (n : Nat) (h3 : List Int) (h4 : Int) (h5 : Int) (h6 : Int) (h7 : Int) : itnNumber_6 (n + 1) h3 h4 h5 h6 h7 = stepnNumber_6 h3 h4 h5 h6 h7 (itnNumber_6 n) some := by kernel_rfl
theorem spSgn_snoc (l : List Int) (c : Int) : spSgn (l ++ [c]) = if l = [] then (if 128 ≤ c then c - 256 else c) else spSgn l * 256 + c := by
  cases l with
  | nil => simp [spSgn]
  | cons x l => simp [spSgn, List.foldl_append]
theorem spSgn_bd : ∀ (l : List Int) (v B : Int), (∀ c ∈ l, 0 ≤ c ∧ c < 256) → -B ≤ v → v < B → -(B * 256 ^ l.length) ≤ l.foldl (fun v c => v * 256 + c) v ∧ l.foldl (fun v c => v * 256 + c) v < B * 256 ^ l.length
  | [], v, B, _, h1, h2 => by simp; omega
  | c :: l, v, B, hc, h1, h2 => by
    have h := hc c (by simp)
    have ih := spSgn_bd l (v * 256 + c) (B * 256) (fun x hx => hc x (by simp [hx])) (by omega) (by omega)
    have e : B * 256 * 256 ^ l.length = B * 256 ^ (c :: l).length := by rw [List.length_cons, Int.pow_succ, Int.mul_assoc, Int.mul_comm 256]
    rw [e] at ih
    exact ih
theorem spSgn_le {l : List Int} (hc : ∀ c ∈ l, 0 ≤ c ∧ c < 256) (hl : l.length ≤ 7) : -36028797018963968 ≤ spSgn l ∧ spSgn l < 36028797018963968 := by
  cases l with
  | nil => simp [spSgn]
  | cons c l =>
    have h := hc c (by simp)
    have h' := spSgn_bd l (if 128 ≤ c then c - 256 else c) 128 (fun x hx => hc x (by simp [hx])) (by split <;> omega) (by split <;> omega)
    have hp : (256 : Int) ^ l.length ≤ 256 ^ 6 := by
      have := Nat.pow_le_pow_right (show 0 < 256 by decide) (show l.length ≤ 6 by simpa using hl)
      have e : ((256 ^ l.length : Nat) : Int) = (256 : Int) ^ l.length := by simp
      have e2 : ((256 ^ 6 : Nat) : Int) = (256 : Int) ^ 6 := by simp
      omega
    have e6 : (256 : Int) ^ 6 = 281474976710656 := by decide
    show -36028797018963968 ≤ l.foldl _ _ ∧ l.foldl _ _ < 36028797018963968
    omega
theorem loopnNumber {b : List Int} (hb : ∀ c ∈ b, 0 ≤ c ∧ c < 256) (hl : b.length ≤ maxLen) {a m : Nat} (h1 : a + m ≤ b.length) (h2 : m ≤ 8) : ∀ (k j : Nat), m < j + k → j ≤ m →
    itnNumber_6 k b (a : Int) (m : Int) (spSgn ((b.drop a).take j)) j = some (.ret ((), ((spSgn ((b.drop a).take m), ()), ()))) := by
  intro k
  induction k with
  | zero => intro j h; omega
  | succ k ih =>
    intro j h3 h4
    rw [slnNumber_6]
    unfold stepnNumber_6
    by_cases hj : j < m
    · have hm := maxLen_eq
      rw [hm] at hl
      refine (bif_true (decide_eq_true (show (j : Int) < (m : Int) by omega)) _ _).trans ?_
      have ej : ((a : Int) + (j : Int)) = ((a + j : Nat) : Int) := by omega
      have hget : List.getD b (a + j) (0 : Int) = b[a + j]'(by omega) := getD_lt (by omega)
      have hc := hb (b[a + j]'(by omega)) (List.getElem_mem _)
      have e : (b.drop a).take (j + 1) = (b.drop a).take j ++ [b[a + j]'(by omega)] := by
        rw [List.take_succ_eq_append_getElem (by simp; omega)]; simp
      have hs := spSgn_le (l := (b.drop a).take j) (fun c hc => hb c (List.mem_of_mem_drop (List.mem_of_mem_take hc))) (by simp; omega)
      have he := spSgn_snoc ((b.drop a).take j) (b[a + j]'(by omega))
      rw [← e] at he
      rw [ej, wrap_i64 (n := ((a + j : Nat) : Int)) (by omega) (by omega)]
      refine (bif_true (by simp; omega) _ _).trans ?_
      simp only [Int.toNat_natCast, hget]
      have ih' := ih (j + 1) (by omega) (by omega)
      rw [he] at ih'
      have hv0 : j = 0 → spSgn ((b.drop a).take j) = 0 := by rintro rfl; simp [spSgn]
      have ht : (b.drop a).take j = [] ↔ j = 0 := by
        constructor
        · intro h
          have := congrArg List.length h
          simp at this
          omega
        · rintro rfl; simp
      generalize b[a + j]'(by omega) = c at hc ih' ⊢
      generalize spSgn ((b.drop a).take j) = v at hs ih' hv0 ⊢
      rw [wrap_i64 (n := c) (by omega) (by omega), wrap_i64 (n := v * 256) (by omega) (by omega), wrap_i64 (n := (j : Int) + 1) (by omega) (by omega), wrap_i64 (n := v * 256 + c) (by omega) (by omega), wrap_i64 (n := c - 256) (by omega) (by omega)]
      by_cases h0 : j = 0
      · have hv := hv0 h0
        rw [if_pos (ht.2 h0)] at ih'
        refine (bif_true (by simp [h0]) _ _).trans ?_
        by_cases h128 : 128 ≤ c
        · rw [if_pos h128] at ih'
          refine (bif_true (by simpa using h128) _ _).trans ?_
          rw [show v * 256 + (c - 256) = c - 256 by omega, wrap_i64 (n := c - 256) (by omega) (by omega)]
          exact ih'
        · rw [if_neg h128] at ih'
          refine (bif_false (by simpa using h128) _ _).trans ?_
          rw [show v * 256 + c = c by omega]
          exact ih'
      · rw [if_neg (fun h => h0 (ht.1 h))] at ih'
        refine (bif_false (by simpa using h0) _ _).trans ?_
        exact ih'
    · refine (bif_false (by simpa using hj) _ _).trans ?_
      rw [show j = m by omega]
noncomputable def bodynNumber (a0 : List Int) (a1 : Int) (a2 : Int) : Option ionNumber.Res := bif decide (a1 < 0) then some (Out.ret ((0, false, ()), ())) else bif decide ((↑a0.length : Int) < a1) then some (Out.ret ((0, false, ()), ())) else bif decide (IntKind.i64.wrap ((↑a0.length : Int) - a1) < a2) then some (Out.ret ((0, false, ()), ())) else (FnNumber_6 ((a0, (a1, (a2, (0, (0, ()))))), ())).run fun y => match y with | .ret ((), ((x24, ()), ())) => (some (Out.ret ((x24, true, ()), ())))
theorem runnNumber (a0 : List Int) (a1 : Int) (a2 : Int) : Io.run tt hdnNumber dr lpnNumber ionNumber Go.Proofs.Tryz.f158 ((a0, a1, a2, ()), ()) = bodynNumber a0 a1 a2 := by kernel_rfl
theorem oknNumber : HcOk prog 158 (ioHd ionNumber FnNumber) := by
  refine fn_sound (n := 400) hm (cs := csnNumber) HcsOk.nil (lp := lpnNumber) (fn := Go.Proofs.Tryz.f158) (by kernel_rfl) (by kernel_rfl) (by kernel_rfl) ionNumber (.step (h0 := loHd lonNumber_6 FnNumber_6) (by kernel_rfl) (loop_sound (n := 400) hm (cs := csnNumber) HcsOk.nil (lp := lpnNumber) (fn := Go.Proofs.Tryz.f158) (.done (by kernel_rfl)) lonNumber_6 FnNumber_6 ?_) (.done (by kernel_rfl))) FnNumber ?_
  · rintro ⟨⟨(b : List Int), (a : Int), (m : Int), (v : Int), (i : Int), ⟨⟩⟩, ⟨⟩⟩ y hw hy
    obtain ⟨hg, hy⟩ := Tr.guard hy
    simp only [Bool.and_eq_true, decide_eq_true_eq] at hg
    obtain ⟨h1, h2, ⟨h3, h4⟩, h5, h6⟩ := hg
    have h1 : v = 0 := h1
    have h2 : i = 0 := h2
    have h3 : (0 : Int) ≤ a := h3
    have h4 : a + m ≤ (b.length : Int) := h4
    have h5 : (0 : Int) ≤ m := h5
    have h6 : m ≤ (8 : Int) := h6
    subst h1
    subst h2
    obtain ⟨a, rfl⟩ := toNat_of h3
    obtain ⟨m, rfl⟩ := toNat_of h5
    have hb : ∀ c ∈ b, 0 ≤ c ∧ c < 256 := fun c hc => by
      have h := hw.1.1.2 c hc
      simp only [Ty.wf, inR, IntKind.min, IntKind.max, IntKind.signed, IntKind.bits] at h
      simp at h
      omega
    refine ⟨m + 1, (loopnNumber hb hw.1.1.1 (a := a) (m := m) (by omega) (by omega) (m + 1) 0 (by omega) (by omega)).trans ?_⟩
    rw [← hy]; rfl
  · rintro ⟨⟨(b : List Int), (a : Int), (m : Int), ⟨⟩⟩, ⟨⟩⟩ out hw ho
    obtain ⟨hg, ho⟩ := Tr.guard ho
    simp only [Bool.and_eq_true, decide_eq_true_eq] at hg
    obtain ⟨h5, h6⟩ := hg
    have h5 : (0 : Int) ≤ m := h5
    have h6 : m ≤ (8 : Int) := h6
    cases ho
    refine (runnNumber b a m).trans ?_
    unfold bodynNumber
    show _ = some (Out.ret (((spNumber b a m).1, ((spNumber b a m).2, ())), ()))
    unfold spNumber
    have hl : b.length ≤ maxLen := hw.1.1.1
    rw [maxLen_eq] at hl
    by_cases h1 : a < 0
    · rw [if_pos (.inl h1)]
      exact bif_true (by simpa using h1) _ _
    · refine (bif_false (by simpa using h1) _ _).trans ?_
      by_cases h2 : (b.length : Int) < a
      · rw [if_pos (.inr (.inl h2))]
        exact bif_true (by simpa using h2) _ _
      · refine (bif_false (by simpa using h2) _ _).trans ?_
        rw [wrap_i64 (n := (b.length : Int) - a) (by omega) (by omega)]
        by_cases h3 : (b.length : Int) - a < m
        · rw [if_pos (.inr (.inr h3))]
          exact bif_true (by simpa using h3) _ _
        · rw [if_neg (by omega)]
          refine (bif_false (by simpa using h3) _ _).trans ?_
          have c1 : (decide ((0 : Int) = 0) && (decide ((0 : Int) = 0) && ((decide ((0 : Int) ≤ a) && decide (a + m ≤ (b.length : Int))) && (decide ((0 : Int) ≤ m) && decide (m ≤ (8 : Int)))))) = true := by simp; omega
          have e1 : FnNumber_6 ((b, (a, (m, (0, (0, ()))))), ()) = .ite true (.ret (.ret ((), ((spSgn ((b.drop a.toNat).take m.toNat), ()), ())))) .no := congrArg (fun c => Tr.ite c _ _) c1
          rw [e1]
          rfl
end
end Go.Proofs.YtmlgepgcofmpeaaGreat.Sym

/- leatref10: the small functions of trees. -/
namespace Go.Proofs.YtmlgepgcofmpeaaGreat.Sym
open Go
set_option linter.unusedSimpArgs false
set_option linter.unusedVariables false
noncomputable section

noncomputable abbrev tLab : Ty := .prod (.int .i64) (.prod (.int .i64) (.prod .bool (.prod bs .unit)))
noncomputable abbrev tNode : Ty := .tree tLab 68
noncomputable abbrev dNode : Sh := .dat tNode true false
noncomputable abbrev tNodes : Ty := .sl 68 tNode
abbrev Nd : Type := Tre tLab.den
@[irreducible] noncomputable def spNd (k n : Int) (z : Bool) (d : List Int) (l : List Nd) : Nd := .mk (k, (n, (z, (d, ())))) l
/-! ### leat/leatref10.Num -/
noncomputable abbrev iotNum : Io := ⟨[dI, d64s], [], [], [dNode], none⟩
noncomputable def FtNum (d : iotNum.In) : Tr iotNum.Res := .ret (.ret ((.mk (d.1.1, (d.1.2.1, (false, (([] : List Int), ())))) [], ()), ()))
noncomputable abbrev cstNum : List (Nat × Hc) := []
noncomputable def hdtNum : Hd := hdT cstNum
noncomputable def lptNum : Lp := lpT []

noncomputable def bodytNum (a0 : Int) (a1 : Int) : Option iotNum.Res := some (Out.ret ((Tre.mk (a0, a1, false, [], ()) [], ()), ()))
theorem runtNum (a0 : Int) (a1 : Int) : Io.run tt hdtNum dr lptNum iotNum Go.Proofs.Tryz.f92 ((a0, a1, ()), ()) = bodytNum a0 a1 := by kernel_rfl
theorem oktNum : HcOk prog 92 (ioHd iotNum FtNum) := by
  refine fn_sound (n := 400) hm (cs := cstNum) HcsOk.nil (lp := lptNum) (fn := Go.Proofs.Tryz.f92) (by kernel_rfl) (by kernel_rfl) (by kernel_rfl) iotNum (.done (by kernel_rfl)) FtNum ?_
  rintro ⟨⟨(k : Int), (n : Int), ⟨⟩⟩, ⟨⟩⟩ out hw ho
  cases ho
  exact runtNum k n

/-! ### leat/leatref10.Row -/
noncomputable abbrev iotRow : Io := ⟨[.dat tNodes false false], [], [], [dNode], none⟩
noncomputable def FtRow (d : iotRow.In) : Tr iotRow.Res := .ret (.ret ((.mk (10, (0, (false, (([] : List Int), ())))) d.1.1, ()), ()))
noncomputable abbrev cstRow : List (Nat × Hc) := []
noncomputable def hdtRow : Hd := hdT cstRow
noncomputable def lptRow : Lp := lpT []

noncomputable def bodytRow (a0 : List tNode.den) : Option iotRow.Res := some (Out.ret ((Tre.mk (10, 0, false, [], ()) a0, ()), ()))
theorem runtRow (a0 : List tNode.den) : Io.run tt hdtRow dr lptRow iotRow Go.Proofs.Tryz.f91 ((a0, ()), ()) = bodytRow a0 := by kernel_rfl
theorem oktRow : HcOk prog 91 (ioHd iotRow FtRow) := by
  refine fn_sound (n := 400) hm (cs := cstRow) HcsOk.nil (lp := lptRow) (fn := Go.Proofs.Tryz.f91) (by kernel_rfl) (by kernel_rfl) (by kernel_rfl) iotRow (.done (by kernel_rfl)) FtRow ?_
  rintro ⟨⟨l, ⟨⟩⟩, ⟨⟩⟩ out hw ho
  cases ho
  exact runtRow l

/-! ### leat/leatref10.At -/
noncomputable abbrev iotAt : Io := ⟨[dNode, dI], [], [], [dNode], none⟩
noncomputable def spAt (n : Nd) (i : Int) : Nd := if 0 ≤ i ∧ i < (n.kids.length : Int) then n.kids.getD i.toNat (.mk (0, (0, (false, ([], ())))) []) else .mk (0, (0, (false, ([], ())))) []
noncomputable def FtAt (d : iotAt.In) : Tr iotAt.Res := .ret (.ret ((spAt d.1.1 d.1.2.1, ()), ()))
noncomputable abbrev cstAt : List (Nat × Hc) := []
noncomputable def hdtAt : Hd := hdT cstAt
noncomputable def lptAt : Lp := lpT []

noncomputable def bodytAt (a0 : Tre tLab.den) (a1 : Int) : Option iotAt.Res := bif decide (a1 < 0) then some (Out.ret ((Tre.mk (0, 0, false, [], ()) [], ()), ())) else bif decide ((↑a0.2.length : Int) ≤ a1) then some (Out.ret ((Tre.mk (0, 0, false, [], ()) [], ()), ())) else bif decide (0 ≤ a1) && decide (a1 < (↑a0.2.length : Int)) then some (Out.ret ((Tre.mk (a0.2.getD a1.toNat (Tre.mk (0, 0, false, [], ()) [])).1 (a0.2.getD a1.toNat (Tre.mk (0, 0, false, [], ()) [])).2, ()), ())) else none
theorem runtAt (a0 : Tre tLab.den) (a1 : Int) : Io.run tt hdtAt dr lptAt iotAt Go.Proofs.Tryz.f89 ((a0, a1, ()), ()) = bodytAt a0 a1 := by kernel_rfl
theorem oktAt : HcOk prog 89 (ioHd iotAt FtAt) := by
  refine fn_sound (n := 400) hm (cs := cstAt) HcsOk.nil (lp := lptAt) (fn := Go.Proofs.Tryz.f89) (by kernel_rfl) (by kernel_rfl) (by kernel_rfl) iotAt (.done (by kernel_rfl)) FtAt ?_
  rintro ⟨⟨(n : Nd), (i : Int), ⟨⟩⟩, ⟨⟩⟩ out hw ho
  cases ho
  refine (runtAt n i).trans ?_
  unfold bodytAt
  show _ = some (Out.ret ((spAt n i, ()), ()))
  unfold spAt
  by_cases h1 : i < 0
  · rw [if_neg (by omega)]
    exact bif_true (by simpa using h1) _ _
  · refine (bif_false (by simpa using h1) _ _).trans ?_
    by_cases h2 : (n.kids.length : Int) ≤ i
    · rw [if_neg (by omega)]
      exact bif_true (by simpa using h2) _ _
    · rw [if_pos (by omega)]
      refine (bif_false (by simpa using h2) _ _).trans ?_
      refine (bif_true (by simp; omega) _ _).trans ?_
      cases n.kids.getD i.toNat (.mk (0, (0, (false, ([], ())))) [])
      rfl
end
end Go.Proofs.YtmlgepgcofmpeaaGreat.Sym

/- wire.Enc: NewEnc, Fail, Lacks, Has, noted, I16, I32, I64, Str, Name, Blob, Done. -/
namespace Go.Proofs.YtmlgepgcofmpeaaGreat.Sym
open Go
set_option linter.unusedSimpArgs false
set_option linter.unusedVariables false
noncomputable section

noncomputable abbrev oEnc : List (List Sh) := [[.ptr 1 0, dI, dI, dB], [dO, dI]]
/-- The first error, whether the room was too small, what is written. -/
abbrev EnS : Type := Int × (Bool × List Int)
abbrev EnO : Type := DenO oEnc
noncomputable abbrev encSt (d : EnO) : EnS := (d.1.2.2.1, (d.1.2.2.2.1, d.2.1.1))
noncomputable abbrev encOut (v : Int) (s : EnS) : EnO := (((), (v, (s.1, (s.2.1, ())))), ((s.2.2, (130048, ())), ()))
noncomputable abbrev encOk (d : EnO) : Bool := decide (d.2.1.2.1 = 130048) && decide (d.2.1.1.length ≤ 130048)
noncomputable def spFail (e : Int) (s : EnS) : EnS := if s.1 = 0 then (e, s.2) else s
noncomputable def spPutE (v : Int) (n : Nat) (s : EnS) : EnS := if 130048 - (s.2.2.length : Int) < n then (s.1, (true, s.2.2)) else (s.1, (s.2.1, s.2.2 ++ spBE v n))
noncomputable def spRawE (p : List Int) (s : EnS) : EnS := if 130048 - (s.2.2.length : Int) < p.length then (s.1, (true, s.2.2)) else (s.1, (s.2.1, s.2.2 ++ p))
noncomputable def spStrE (t : List Int) (s : EnS) : EnS := if (spUtf t).2 = false then spFail 6 s else if 255 < (t.length : Int) then spFail 4 s else spRawE t (spPutE t.length 2 s)
noncomputable def spLacks (v : Int) (z : Bool) (lo hi : Int) (s : EnS) : EnS := if z = false ∧ (v < lo ∨ hi < v) then spFail 7 s else s
noncomputable abbrev tNameT : Ty := .prod .bool (.prod .str .unit)
noncomputable abbrev dNameT : Sh := .dat tNameT true false
noncomputable abbrev tBlobT : Ty := .prod .bool (.prod bs .unit)
noncomputable abbrev dBlobT : Sh := .dat tBlobT true false

theorem encOk_iff {v e : Int} {f : Bool} {b : List Int} {m : Int} (h : encOk (((), (v, (e, (f, ())))), ((b, (m, ())), ())) = true) : m = 130048 ∧ b.length ≤ 130048 := by
  simpa [encOk] using h
theorem spWr_le {b : List Int} (x : Int) (n : Nat) (h : b.length ≤ 130048) : (spWr b 130048 x n).2.length ≤ 130048 := by
  unfold spWr
  split
  · exact h
  · simp only [List.length_append, spBE_len]; omega
theorem spWr_putE (x : Int) (n : Nat) (v e : Int) (f : Bool) (b : List Int) :
    encOut v (spPutE x n (e, f, b)) = (((), (v, (e, ((f || decide ((spWr b 130048 x n).1 ≠ 0)), ())))), (((spWr b 130048 x n).2, (130048, ())), ())) := by
  unfold spPutE spWr encOut
  by_cases h : 130048 - (b.length : Int) < n
  · simp [h]
  · simp [h]
theorem spWok_of {b : List Int} (h : b.length ≤ 130048) : spWok b 130048 = true := by
  simp [spWok]; omega
theorem spPutE_le {s : EnS} (x : Int) (n : Nat) (h : s.2.2.length ≤ 130048) : (spPutE x n s).2.2.length ≤ 130048 := by
  unfold spPutE
  split
  · exact h
  · simp only [List.length_append, spBE_len]; omega
theorem spRawW_le {b : List Int} (p : List Int) (h : b.length ≤ 130048) : (spRaw b 130048 [p]).2.length ≤ 130048 := by
  unfold spRaw
  split
  · exact h
  · simp only [spSumLen, spJoin, List.length_append, List.length_nil] at *; omega
theorem spRaw_rawE (p : List Int) (v e : Int) (f : Bool) (b : List Int) :
    encOut v (spRawE p (e, f, b)) = (((), (v, (e, ((f || decide ((spRaw b 130048 [p]).1 ≠ 0)), ())))), (((spRaw b 130048 [p]).2, (130048, ())), ())) := by
  unfold spRawE spRaw encOut
  by_cases h : 130048 - (b.length : Int) < p.length
  · simp [h, spSumLen]
  · simp [h, spSumLen, spJoin]
/-! ### (*leat/wire.Enc).Fail -/
noncomputable abbrev ioeFail : Io := ⟨[.ptr 0 0, dI], oEnc, [], [], none⟩
noncomputable def FeFail (d : ioeFail.In) : Tr ioeFail.Res := .ite (encOk d.2) (.ret (.ret ((), encOut d.2.1.2.1 (spFail d.1.2.1 (encSt d.2))))) .no
noncomputable abbrev cseFail : List (Nat × Hc) := []
noncomputable def hdeFail : Hd := hdT cseFail
noncomputable def lpeFail : Lp := lpT []

noncomputable def bodyeFail (a0 : Int) (a1 : Int) (a2 : Int) (a3 : Bool) (a4 : List Int) (a5 : Int) : Option ioeFail.Res := bif a2 == 0 then some (Out.ret ((), ((), a1, a0, a3, ()), (a4, a5, ()), ())) else some (Out.ret ((), ((), a1, a2, a3, ()), (a4, a5, ()), ()))
theorem runeFail (a0 : Int) (a1 : Int) (a2 : Int) (a3 : Bool) (a4 : List Int) (a5 : Int) : Io.run tt hdeFail dr lpeFail ioeFail Go.Proofs.Tryz.f100 (((), a0, ()), ((), a1, a2, a3, ()), (a4, a5, ()), ()) = bodyeFail a0 a1 a2 a3 a4 a5 := by kernel_rfl
theorem okeFail : HcOk prog 100 (ioHd ioeFail FeFail) := by
  refine fn_sound (n := 400) hm (cs := cseFail) HcsOk.nil (lp := lpeFail) (fn := Go.Proofs.Tryz.f100) (by kernel_rfl) (by kernel_rfl) (by kernel_rfl) ioeFail (.done (by kernel_rfl)) FeFail ?_
  rintro ⟨⟨⟨⟩, (x : Int), ⟨⟩⟩, ⟨⟨⟨⟩, (v : Int), (e : Int), (f : Bool), ⟨⟩⟩, ⟨(b : List Int), (m : Int), ⟨⟩⟩, ⟨⟩⟩⟩ out hw ho
  obtain ⟨hg, ho⟩ := Tr.guard ho
  obtain ⟨rfl, hb⟩ := encOk_iff hg
  cases ho
  refine (runeFail x v e f b 130048).trans ?_
  unfold bodyeFail spFail encSt encOut
  by_cases h : e = 0
  · rw [bif_true (by simpa using h), if_pos h]
  · rw [bif_false (by simpa using h), if_neg h]

/-! ### (*leat/wire.Enc).noted -/
noncomputable abbrev ioenoted : Io := ⟨[.ptr 0 0, dI], oEnc, [], [], none⟩
noncomputable def Fenoted (d : ioenoted.In) : Tr ioenoted.Res := .ite (encOk d.2) (.ret (.ret ((), encOut d.2.1.2.1 (d.2.1.2.2.1, (d.2.1.2.2.2.1 || decide (d.1.2.1 ≠ 0), d.2.2.1.1))))) .no
noncomputable abbrev csenoted : List (Nat × Hc) := []
noncomputable def hdenoted : Hd := hdT csenoted
noncomputable def lpenoted : Lp := lpT []

noncomputable def bodyenoted (a0 : Int) (a1 : Int) (a2 : Int) (a3 : Bool) (a4 : List Int) (a5 : Int) : Option ioenoted.Res := bif a3 then some (Out.ret ((), ((), a1, a2, true, ()), (a4, a5, ()), ())) else some (Out.ret ((), ((), a1, a2, a0 != 0, ()), (a4, a5, ()), ()))
theorem runenoted (a0 : Int) (a1 : Int) (a2 : Int) (a3 : Bool) (a4 : List Int) (a5 : Int) : Io.run tt hdenoted dr lpenoted ioenoted Go.Proofs.Tryz.f101 (((), a0, ()), ((), a1, a2, a3, ()), (a4, a5, ()), ()) = bodyenoted a0 a1 a2 a3 a4 a5 := by kernel_rfl
theorem okenoted : HcOk prog 101 (ioHd ioenoted Fenoted) := by
  refine fn_sound (n := 400) hm (cs := csenoted) HcsOk.nil (lp := lpenoted) (fn := Go.Proofs.Tryz.f101) (by kernel_rfl) (by kernel_rfl) (by kernel_rfl) ioenoted (.done (by kernel_rfl)) Fenoted ?_
  rintro ⟨⟨⟨⟩, (x : Int), ⟨⟩⟩, ⟨⟨⟨⟩, (v : Int), (e : Int), (f : Bool), ⟨⟩⟩, ⟨(b : List Int), (m : Int), ⟨⟩⟩, ⟨⟩⟩⟩ out hw ho
  obtain ⟨hg, ho⟩ := Tr.guard ho
  obtain ⟨rfl, hb⟩ := encOk_iff hg
  cases ho
  refine (runenoted x v e f b 130048).trans ?_
  unfold bodyenoted
  cases f
  · show some _ = _
    have : (x != 0) = decide (x ≠ 0) := by rw [Bool.eq_iff_iff]; simp
    rw [this]; rfl
  · rfl

/-! ### (*leat/wire.Enc).Lacks -/
noncomputable abbrev ioeLacks : Io := ⟨[.ptr 0 0, dB, dI, dI], oEnc, [], [], none⟩
noncomputable def FeLacks (d : ioeLacks.In) : Tr ioeLacks.Res := .ite (encOk d.2) (.ret (.ret ((), encOut d.2.1.2.1 (spLacks d.2.1.2.1 d.1.2.1 d.1.2.2.1 d.1.2.2.2.1 (encSt d.2))))) .no
noncomputable abbrev cseLacks : List (Nat × Hc) := [(100, ioHd ioeFail FeFail)]
noncomputable def hdeLacks : Hd := hdT cseLacks
noncomputable def lpeLacks : Lp := lpT []

noncomputable def bodyeLacks (a0 : Bool) (a1 : Int) (a2 : Int) (a3 : Int) (a4 : Int) (a5 : Bool) (a6 : List Int) (a7 : Int) : Option ioeLacks.Res := bif !a0 then bif decide (a3 < a1) then bif decide (a7 = 130048) && decide (a6.length ≤ 130048) then some (Out.ret ((), ((), a3, (spFail 7 (a4, a5, a6)).fst, (spFail 7 (a4, a5, a6)).snd.fst, ()), ((spFail 7 (a4, a5, a6)).snd.snd, 130048, ()), ())) else none else bif decide (a2 < a3) then bif decide (a7 = 130048) && decide (a6.length ≤ 130048) then some (Out.ret ((), ((), a3, (spFail 7 (a4, a5, a6)).fst, (spFail 7 (a4, a5, a6)).snd.fst, ()), ((spFail 7 (a4, a5, a6)).snd.snd, 130048, ()), ())) else none else some (Out.ret ((), ((), a3, a4, a5, ()), (a6, a7, ()), ())) else some (Out.ret ((), ((), a3, a4, a5, ()), (a6, a7, ()), ()))
theorem runeLacks (a0 : Bool) (a1 : Int) (a2 : Int) (a3 : Int) (a4 : Int) (a5 : Bool) (a6 : List Int) (a7 : Int) : Io.run tt hdeLacks dr lpeLacks ioeLacks Go.Proofs.Tryz.f37 (((), a0, a1, a2, ()), ((), a3, a4, a5, ()), (a6, a7, ()), ()) = bodyeLacks a0 a1 a2 a3 a4 a5 a6 a7 := by kernel_rfl
theorem okeLacks : HcOk prog 37 (ioHd ioeLacks FeLacks) := by
  refine fn_sound (n := 400) hm (cs := cseLacks) (.cons okeFail .nil) (lp := lpeLacks) (fn := Go.Proofs.Tryz.f37) (by kernel_rfl) (by kernel_rfl) (by kernel_rfl) ioeLacks (.done (by kernel_rfl)) FeLacks ?_
  rintro ⟨⟨⟨⟩, (z : Bool), (lo : Int), (hi : Int), ⟨⟩⟩, ⟨⟨⟨⟩, (v : Int), (e : Int), (f : Bool), ⟨⟩⟩, ⟨(b : List Int), (m : Int), ⟨⟩⟩, ⟨⟩⟩⟩ out hw ho
  obtain ⟨hg, ho⟩ := Tr.guard ho
  obtain ⟨rfl, hb⟩ := encOk_iff hg
  cases ho
  refine (runeLacks z lo hi v e f b 130048).trans ?_
  unfold bodyeLacks
  have g : (decide ((130048 : Int) = 130048) && decide (b.length ≤ 130048)) = true := by simpa using hb
  show _ = some (Out.ret ((), encOut v (spLacks v z lo hi (e, f, b))))
  unfold spLacks
  cases z
  · by_cases h1 : v < lo
    · rw [bif_true (by rfl), bif_true (by simpa using h1), bif_true g, if_pos ⟨rfl, .inl h1⟩]
    · rw [bif_true (by rfl), bif_false (by simpa using h1)]
      by_cases h2 : hi < v
      · rw [bif_true (by simpa using h2), bif_true g, if_pos ⟨rfl, .inr h2⟩]
      · rw [bif_false (by simpa using h2), if_neg (by simp; omega)]
  · rw [bif_false (by rfl), if_neg (by simp)]

/-! ### (*leat/wire.Enc).Has -/
noncomputable abbrev ioeHas : Io := ⟨[.ptr 0 0, dI, dI], oEnc, [], [dB], none⟩
noncomputable def FeHas (d : ioeHas.In) : Tr ioeHas.Res := .ite (encOk d.2) (.ret (.ret ((decide (d.1.2.1 ≤ d.2.1.2.1) && decide (d.2.1.2.1 ≤ d.1.2.2.1), ()), encOut d.2.1.2.1 (encSt d.2)))) .no
noncomputable abbrev cseHas : List (Nat × Hc) := []
noncomputable def hdeHas : Hd := hdT cseHas
noncomputable def lpeHas : Lp := lpT []

noncomputable def bodyeHas (a0 : Int) (a1 : Int) (a2 : Int) (a3 : Int) (a4 : Bool) (a5 : List Int) (a6 : Int) : Option ioeHas.Res := bif decide (a0 ≤ a2) then some (Out.ret ((decide (a2 ≤ a1), ()), ((), a2, a3, a4, ()), (a5, a6, ()), ())) else some (Out.ret ((false, ()), ((), a2, a3, a4, ()), (a5, a6, ()), ()))
theorem runeHas (a0 : Int) (a1 : Int) (a2 : Int) (a3 : Int) (a4 : Bool) (a5 : List Int) (a6 : Int) : Io.run tt hdeHas dr lpeHas ioeHas Go.Proofs.Tryz.f38 (((), a0, a1, ()), ((), a2, a3, a4, ()), (a5, a6, ()), ()) = bodyeHas a0 a1 a2 a3 a4 a5 a6 := by kernel_rfl
theorem okeHas : HcOk prog 38 (ioHd ioeHas FeHas) := by
  refine fn_sound (n := 400) hm (cs := cseHas) HcsOk.nil (lp := lpeHas) (fn := Go.Proofs.Tryz.f38) (by kernel_rfl) (by kernel_rfl) (by kernel_rfl) ioeHas (.done (by kernel_rfl)) FeHas ?_
  rintro ⟨⟨⟨⟩, (lo : Int), (hi : Int), ⟨⟩⟩, ⟨⟨⟨⟩, (v : Int), (e : Int), (f : Bool), ⟨⟩⟩, ⟨(b : List Int), (m : Int), ⟨⟩⟩, ⟨⟩⟩⟩ out hw ho
  obtain ⟨hg, ho⟩ := Tr.guard ho
  obtain ⟨rfl, hb⟩ := encOk_iff hg
  cases ho
  refine (runeHas lo hi v e f b 130048).trans ?_
  unfold bodyeHas
  show _ = some (Out.ret ((decide (lo ≤ v) && decide (v ≤ hi), ()), encOut v (e, f, b)))
  by_cases h : lo ≤ v
  · rw [bif_true (by simpa using h), decide_eq_true h]; rfl
  · rw [bif_false (by simpa using h), decide_eq_false h]; rfl

/-! ### (*leat/wire.Enc).I16 -/
theorem encPut (n : Nat) (x : Int) {a1 a2 : Int} {a3 : Bool} {a4 : List Int} (h : a4.length ≤ 130048) :
    (bif spWok a4 130048 then bif decide ((130048 : Int) = 130048) && decide ((spWr a4 130048 x n).snd.length ≤ 130048) then some (Out.ret ((), ((), a1, a2, a3 || decide ((spWr a4 130048 x n).fst ≠ 0), ()), ((spWr a4 130048 x n).snd, 130048, ()), ())) else none else (none : Option ioeFail.Res))
      = some (Out.ret ((), encOut a1 (spPutE x n (a2, a3, a4)))) := by
  rw [bif_true (spWok_of h), bif_true (by simpa using spWr_le x n h), spWr_putE]
theorem encRaw (p : List Int) {a1 a2 : Int} {a3 : Bool} {a4 : List Int} (h : a4.length ≤ 130048) (hp : p.length ≤ 4294960000) :
    (bif spWok a4 130048 && decide (spSumLen [p] ≤ 4294960000) then bif decide ((130048 : Int) = 130048) && decide ((spRaw a4 130048 [p]).snd.length ≤ 130048) then some (Out.ret ((), ((), a1, a2, a3 || decide ((spRaw a4 130048 [p]).fst ≠ 0), ()), ((spRaw a4 130048 [p]).snd, 130048, ()), ())) else none else (none : Option ioeFail.Res))
      = some (Out.ret ((), encOut a1 (spRawE p (a2, a3, a4)))) := by
  rw [bif_true (by rw [spWok_of h, Bool.true_and]; exact decide_eq_true (show p.length + 0 ≤ 4294960000 by omega)), bif_true (by simpa using spRawW_le p h), spRaw_rawE]
noncomputable abbrev ioeI16 : Io := ⟨[.ptr 0 0, d16], oEnc, [], [], none⟩
noncomputable def FeI16 (d : ioeI16.In) : Tr ioeI16.Res := .ite (encOk d.2) (.ret (.ret ((), encOut d.2.1.2.1 (spPutE d.1.2.1 2 (encSt d.2))))) .no
noncomputable abbrev cseI16 : List (Nat × Hc) := [(102, ioHd iowI16 FwI16), (101, ioHd ioenoted Fenoted)]
noncomputable def hdeI16 : Hd := hdT cseI16
noncomputable def lpeI16 : Lp := lpT []

noncomputable def bodyeI16 (a0 : Int) (a1 : Int) (a2 : Int) (a3 : Bool) (a4 : List Int) (a5 : Int) : Option ioeI16.Res := bif spWok a4 a5 then bif decide (a5 = 130048) && decide ((spWr a4 a5 a0 2).snd.length ≤ 130048) then some (Out.ret ((), ((), a1, a2, a3 || decide ((spWr a4 a5 a0 2).fst ≠ 0), ()), ((spWr a4 a5 a0 2).snd, 130048, ()), ())) else none else none
theorem runeI16 (a0 : Int) (a1 : Int) (a2 : Int) (a3 : Bool) (a4 : List Int) (a5 : Int) : Io.run tt hdeI16 dr lpeI16 ioeI16 Go.Proofs.Tryz.f40 (((), a0, ()), ((), a1, a2, a3, ()), (a4, a5, ()), ()) = bodyeI16 a0 a1 a2 a3 a4 a5 := by kernel_rfl
theorem okeI16 : HcOk prog 40 (ioHd ioeI16 FeI16) := by
  refine fn_sound (n := 400) hm (cs := cseI16) (.cons okwI16 (.cons okenoted .nil)) (lp := lpeI16) (fn := Go.Proofs.Tryz.f40) (by kernel_rfl) (by kernel_rfl) (by kernel_rfl) ioeI16 (.done (by kernel_rfl)) FeI16 ?_
  rintro ⟨⟨⟨⟩, (x : Int), ⟨⟩⟩, ⟨⟨⟨⟩, (v : Int), (e : Int), (f : Bool), ⟨⟩⟩, ⟨(b : List Int), (m : Int), ⟨⟩⟩, ⟨⟩⟩⟩ out hw ho
  obtain ⟨hg, ho⟩ := Tr.guard ho
  obtain ⟨rfl, hb⟩ := encOk_iff hg
  cases ho
  refine (runeI16 x v e f b 130048).trans ?_
  exact encPut 2 x hb

/-! ### (*leat/wire.Enc).I32 -/
noncomputable abbrev ioeI32 : Io := ⟨[.ptr 0 0, dS32], oEnc, [], [], none⟩
noncomputable def FeI32 (d : ioeI32.In) : Tr ioeI32.Res := .ite (encOk d.2) (.ret (.ret ((), encOut d.2.1.2.1 (spPutE d.1.2.1 4 (encSt d.2))))) .no
noncomputable abbrev cseI32 : List (Nat × Hc) := [(103, ioHd iowI32 FwI32), (101, ioHd ioenoted Fenoted)]
noncomputable def hdeI32 : Hd := hdT cseI32
noncomputable def lpeI32 : Lp := lpT []

noncomputable def bodyeI32 (a0 : Int) (a1 : Int) (a2 : Int) (a3 : Bool) (a4 : List Int) (a5 : Int) : Option ioeI32.Res := bif spWok a4 a5 then bif decide (a5 = 130048) && decide ((spWr a4 a5 a0 4).snd.length ≤ 130048) then some (Out.ret ((), ((), a1, a2, a3 || decide ((spWr a4 a5 a0 4).fst ≠ 0), ()), ((spWr a4 a5 a0 4).snd, 130048, ()), ())) else none else none
theorem runeI32 (a0 : Int) (a1 : Int) (a2 : Int) (a3 : Bool) (a4 : List Int) (a5 : Int) : Io.run tt hdeI32 dr lpeI32 ioeI32 Go.Proofs.Tryz.f41 (((), a0, ()), ((), a1, a2, a3, ()), (a4, a5, ()), ()) = bodyeI32 a0 a1 a2 a3 a4 a5 := by kernel_rfl
theorem okeI32 : HcOk prog 41 (ioHd ioeI32 FeI32) := by
  refine fn_sound (n := 400) hm (cs := cseI32) (.cons okwI32 (.cons okenoted .nil)) (lp := lpeI32) (fn := Go.Proofs.Tryz.f41) (by kernel_rfl) (by kernel_rfl) (by kernel_rfl) ioeI32 (.done (by kernel_rfl)) FeI32 ?_
  rintro ⟨⟨⟨⟩, (x : Int), ⟨⟩⟩, ⟨⟨⟨⟩, (v : Int), (e : Int), (f : Bool), ⟨⟩⟩, ⟨(b : List Int), (m : Int), ⟨⟩⟩, ⟨⟩⟩⟩ out hw ho
  obtain ⟨hg, ho⟩ := Tr.guard ho
  obtain ⟨rfl, hb⟩ := encOk_iff hg
  cases ho
  refine (runeI32 x v e f b 130048).trans ?_
  exact encPut 4 x hb

/-! ### (*leat/wire.Enc).I64 -/
noncomputable abbrev ioeI64 : Io := ⟨[.ptr 0 0, d64s], oEnc, [], [], none⟩
noncomputable def FeI64 (d : ioeI64.In) : Tr ioeI64.Res := .ite (encOk d.2) (.ret (.ret ((), encOut d.2.1.2.1 (spPutE d.1.2.1 8 (encSt d.2))))) .no
noncomputable abbrev cseI64 : List (Nat × Hc) := [(106, ioHd iowI64 FwI64), (101, ioHd ioenoted Fenoted)]
noncomputable def hdeI64 : Hd := hdT cseI64
noncomputable def lpeI64 : Lp := lpT []

noncomputable def bodyeI64 (a0 : Int) (a1 : Int) (a2 : Int) (a3 : Bool) (a4 : List Int) (a5 : Int) : Option ioeI64.Res := bif spWok a4 a5 then bif decide (a5 = 130048) && decide ((spWr a4 a5 a0 8).snd.length ≤ 130048) then some (Out.ret ((), ((), a1, a2, a3 || decide ((spWr a4 a5 a0 8).fst ≠ 0), ()), ((spWr a4 a5 a0 8).snd, 130048, ()), ())) else none else none
theorem runeI64 (a0 : Int) (a1 : Int) (a2 : Int) (a3 : Bool) (a4 : List Int) (a5 : Int) : Io.run tt hdeI64 dr lpeI64 ioeI64 Go.Proofs.Tryz.f58 (((), a0, ()), ((), a1, a2, a3, ()), (a4, a5, ()), ()) = bodyeI64 a0 a1 a2 a3 a4 a5 := by kernel_rfl
theorem okeI64 : HcOk prog 58 (ioHd ioeI64 FeI64) := by
  refine fn_sound (n := 400) hm (cs := cseI64) (.cons okwI64 (.cons okenoted .nil)) (lp := lpeI64) (fn := Go.Proofs.Tryz.f58) (by kernel_rfl) (by kernel_rfl) (by kernel_rfl) ioeI64 (.done (by kernel_rfl)) FeI64 ?_
  rintro ⟨⟨⟨⟩, (x : Int), ⟨⟩⟩, ⟨⟨⟨⟩, (v : Int), (e : Int), (f : Bool), ⟨⟩⟩, ⟨(b : List Int), (m : Int), ⟨⟩⟩, ⟨⟩⟩⟩ out hw ho
  obtain ⟨hg, ho⟩ := Tr.guard ho
  obtain ⟨rfl, hb⟩ := encOk_iff hg
  cases ho
  refine (runeI64 x v e f b 130048).trans ?_
  exact encPut 8 x hb

/-! ### (*leat/wire.Enc).Str -/
noncomputable abbrev ioeStr : Io := ⟨[.ptr 0 0, .dat .str false false], oEnc, [], [], none⟩
noncomputable def FeStr (d : ioeStr.In) : Tr ioeStr.Res := .ite (encOk d.2) (.ret (.ret ((), encOut d.2.1.2.1 (spStrE d.1.2.1 (encSt d.2))))) .no
noncomputable abbrev cseStr : List (Nat × Hc) := [(104, ioHd iopUtf FpUtf), (100, ioHd ioeFail FeFail), (40, ioHd ioeI16 FeI16), (105, ioHd iowRaw FwRaw), (101, ioHd ioenoted Fenoted)]
noncomputable def hdeStr : Hd := hdT cseStr
noncomputable def lpeStr : Lp := lpT []

noncomputable def bodyeStr (a0 : List Int) (a1 : Int) (a2 : Int) (a3 : Bool) (a4 : List Int) (a5 : Int) : Option ioeStr.Res := bif !(spUtf a0).snd then bif decide (a5 = 130048) && decide (a4.length ≤ 130048) then some (Out.ret ((), ((), a1, (spFail 6 (a2, a3, a4)).fst, (spFail 6 (a2, a3, a4)).snd.fst, ()), ((spFail 6 (a2, a3, a4)).snd.snd, 130048, ()), ())) else none else bif decide (255 < (↑a0.length : Int)) then bif decide (a5 = 130048) && decide (a4.length ≤ 130048) then some (Out.ret ((), ((), a1, (spFail 4 (a2, a3, a4)).fst, (spFail 4 (a2, a3, a4)).snd.fst, ()), ((spFail 4 (a2, a3, a4)).snd.snd, 130048, ()), ())) else none else bif decide (a5 = 130048) && decide (a4.length ≤ 130048) then bif spWok (spPutE (IntKind.i16.wrap (↑a0.length : Int)) 2 (a2, a3, a4)).snd.snd 130048 && decide (spSumLen [a0] ≤ 4294960000) then bif decide (130048 = 130048) && decide ((spRaw (spPutE (IntKind.i16.wrap (↑a0.length : Int)) 2 (a2, a3, a4)).snd.snd 130048 [a0]).snd.length ≤ 130048) then some (Out.ret ((), ((), a1, (spPutE (IntKind.i16.wrap (↑a0.length : Int)) 2 (a2, a3, a4)).fst, (spPutE (IntKind.i16.wrap (↑a0.length : Int)) 2 (a2, a3, a4)).snd.fst || decide ((spRaw (spPutE (IntKind.i16.wrap (↑a0.length : Int)) 2 (a2, a3, a4)).snd.snd 130048 [a0]).fst ≠ 0), ()), ((spRaw (spPutE (IntKind.i16.wrap (↑a0.length : Int)) 2 (a2, a3, a4)).snd.snd 130048 [a0]).snd, 130048, ()), ())) else none else none else none
theorem runeStr (a0 : List Int) (a1 : Int) (a2 : Int) (a3 : Bool) (a4 : List Int) (a5 : Int) : Io.run tt hdeStr dr lpeStr ioeStr Go.Proofs.Tryz.f44 (((), a0, ()), ((), a1, a2, a3, ()), (a4, a5, ()), ()) = bodyeStr a0 a1 a2 a3 a4 a5 := by kernel_rfl
theorem okeStr : HcOk prog 44 (ioHd ioeStr FeStr) := by
  refine fn_sound (n := 400) hm (cs := cseStr) (.cons okpUtf (.cons okeFail (.cons okeI16 (.cons okwRaw (.cons okenoted .nil))))) (lp := lpeStr) (fn := Go.Proofs.Tryz.f44) (by kernel_rfl) (by kernel_rfl) (by kernel_rfl) ioeStr (.done (by kernel_rfl)) FeStr ?_
  rintro ⟨⟨⟨⟩, (t : List Int), ⟨⟩⟩, ⟨⟨⟨⟩, (v : Int), (e : Int), (f : Bool), ⟨⟩⟩, ⟨(b : List Int), (m : Int), ⟨⟩⟩, ⟨⟩⟩⟩ out hw ho
  obtain ⟨hg, ho⟩ := Tr.guard ho
  obtain ⟨rfl, hb⟩ := encOk_iff hg
  cases ho
  refine (runeStr t v e f b 130048).trans ?_
  unfold bodyeStr
  have g : ∀ c : List Int, c.length ≤ 130048 → (decide ((130048 : Int) = 130048) && decide (c.length ≤ 130048)) = true := fun c h => by simpa using h
  show _ = some (Out.ret ((), encOut v (spStrE t (e, f, b))))
  unfold spStrE
  cases hu : (spUtf t).2
  · rw [bif_true (by rfl), bif_true (g b hb), if_pos rfl]
  · rw [bif_false (by rfl), if_neg (by simp)]
    by_cases h1 : (255 : Int) < (t.length : Int)
    · rw [bif_true (by simpa using h1), bif_true (g b hb), if_pos h1]
    · rw [bif_false (by simpa using h1), if_neg h1, bif_true (g b hb), show IntKind.i16.wrap (t.length : Int) = t.length from wrap_id (by simp [inR, IntKind.min, IntKind.max, IntKind.signed, IntKind.bits]; omega)]
      exact encRaw t (spPutE_le (s := (e, f, b)) _ 2 hb) (by omega)

/-! ### (*leat/wire.Enc).Name -/
noncomputable abbrev ioeName : Io := ⟨[.ptr 0 0, dNameT], oEnc, [], [], none⟩
noncomputable def spNameE (n : Bool × (List Int × Unit)) (s : EnS) : EnS := if n.1 = true ∧ n.2.1 ≠ [] then spFail 70 s else if n.1 = true then spPutE (-1) 2 s else spStrE n.2.1 s
noncomputable def FeName (d : ioeName.In) : Tr ioeName.Res := .ite (encOk d.2) (.ret (.ret ((), encOut d.2.1.2.1 (spNameE d.1.2.1 (encSt d.2))))) .no
noncomputable abbrev cseName : List (Nat × Hc) := [(100, ioHd ioeFail FeFail), (40, ioHd ioeI16 FeI16), (44, ioHd ioeStr FeStr)]
noncomputable def hdeName : Hd := hdT cseName
noncomputable def lpeName : Lp := lpT []

noncomputable def bodyeName (a0 : Bool) (a1 : List Int) (a2 : Int) (a3 : Int) (a4 : Bool) (a5 : List Int) (a6 : Int) : Option ioeName.Res := bif a0 then bif !decide (a1 = List.map (fun (c : UInt8) => (↑c.toNat : Int)) []) then bif decide (a6 = 130048) && decide (a5.length ≤ 130048) then some (Out.ret ((), ((), a2, (spFail 70 (a3, a4, a5)).fst, (spFail 70 (a3, a4, a5)).snd.fst, ()), ((spFail 70 (a3, a4, a5)).snd.snd, 130048, ()), ())) else none else bif a0 then bif decide (a6 = 130048) && decide (a5.length ≤ 130048) then some (Out.ret ((), ((), a2, (spPutE (-1) 2 (a3, a4, a5)).fst, (spPutE (-1) 2 (a3, a4, a5)).snd.fst, ()), ((spPutE (-1) 2 (a3, a4, a5)).snd.snd, 130048, ()), ())) else none else bif decide (a6 = 130048) && decide (a5.length ≤ 130048) then some (Out.ret ((), ((), a2, (spStrE a1 (a3, a4, a5)).fst, (spStrE a1 (a3, a4, a5)).snd.fst, ()), ((spStrE a1 (a3, a4, a5)).snd.snd, 130048, ()), ())) else none else bif a0 then bif decide (a6 = 130048) && decide (a5.length ≤ 130048) then some (Out.ret ((), ((), a2, (spPutE (-1) 2 (a3, a4, a5)).fst, (spPutE (-1) 2 (a3, a4, a5)).snd.fst, ()), ((spPutE (-1) 2 (a3, a4, a5)).snd.snd, 130048, ()), ())) else none else bif decide (a6 = 130048) && decide (a5.length ≤ 130048) then some (Out.ret ((), ((), a2, (spStrE a1 (a3, a4, a5)).fst, (spStrE a1 (a3, a4, a5)).snd.fst, ()), ((spStrE a1 (a3, a4, a5)).snd.snd, 130048, ()), ())) else none
theorem runeName (a0 : Bool) (a1 : List Int) (a2 : Int) (a3 : Int) (a4 : Bool) (a5 : List Int) (a6 : Int) : Io.run tt hdeName dr lpeName ioeName Go.Proofs.Tryz.f39 (((), (a0, a1, ()), ()), ((), a2, a3, a4, ()), (a5, a6, ()), ()) = bodyeName a0 a1 a2 a3 a4 a5 a6 := by kernel_rfl
theorem okeName : HcOk prog 39 (ioHd ioeName FeName) := by
  refine fn_sound (n := 400) hm (cs := cseName) (.cons okeFail (.cons okeI16 (.cons okeStr .nil))) (lp := lpeName) (fn := Go.Proofs.Tryz.f39) (by kernel_rfl) (by kernel_rfl) (by kernel_rfl) ioeName (.done (by kernel_rfl)) FeName ?_
  rintro ⟨⟨⟨⟩, ⟨(z : Bool), (t : List Int), ⟨⟩⟩, ⟨⟩⟩, ⟨⟨⟨⟩, (v : Int), (e : Int), (f : Bool), ⟨⟩⟩, ⟨(b : List Int), (m : Int), ⟨⟩⟩, ⟨⟩⟩⟩ out hw ho
  obtain ⟨hg, ho⟩ := Tr.guard ho
  obtain ⟨rfl, hb⟩ := encOk_iff hg
  cases ho
  refine (runeName z t v e f b 130048).trans ?_
  unfold bodyeName
  have g : (decide ((130048 : Int) = 130048) && decide (b.length ≤ 130048)) = true := by simpa using hb
  show _ = some (Out.ret ((), encOut v (spNameE (z, (t, ())) (e, f, b))))
  unfold spNameE
  rw [g]
  simp only [List.map_nil, cond_true]
  cases z
  · rw [bif_false (by rfl), bif_false (by rfl), if_neg (by simp), if_neg (by simp)]
  · by_cases h : t = []
    · rw [bif_true (by rfl), bif_false (by simpa using h), bif_true (by rfl), if_neg (by simp [h]), if_pos rfl]
    · rw [bif_true (by rfl), bif_true (by simpa using h), if_pos ⟨rfl, h⟩]

/-! ### (*leat/wire.Enc).Blob -/
noncomputable abbrev ioeBlob : Io := ⟨[.ptr 0 0, dBlobT], oEnc, [], [], none⟩
noncomputable def spBlobE (n : Bool × (List Int × Unit)) (s : EnS) : EnS := if n.1 = true ∧ 0 < n.2.1.length then spFail 70 s else if n.1 = true then spPutE (-1) 4 s else spRawE n.2.1 (spPutE (IntKind.i32.wrap n.2.1.length) 4 s)
noncomputable def FeBlob (d : ioeBlob.In) : Tr ioeBlob.Res := .ite (encOk d.2 && decide (d.1.2.1.2.1.length ≤ 2147483647)) (.ret (.ret ((), encOut d.2.1.2.1 (spBlobE d.1.2.1 (encSt d.2))))) .no
noncomputable abbrev cseBlob : List (Nat × Hc) := [(100, ioHd ioeFail FeFail), (41, ioHd ioeI32 FeI32), (105, ioHd iowRaw FwRaw), (101, ioHd ioenoted Fenoted)]
noncomputable def hdeBlob : Hd := hdT cseBlob
noncomputable def lpeBlob : Lp := lpT []

noncomputable def bodyeBlob (a0 : Bool) (a1 : List Int) (a2 : Int) (a3 : Int) (a4 : Bool) (a5 : List Int) (a6 : Int) : Option ioeBlob.Res := bif a0 then bif decide (0 < (↑a1.length : Int)) then bif decide (a6 = 130048) && decide (a5.length ≤ 130048) then some (Out.ret ((), ((), a2, (spFail 70 (a3, a4, a5)).fst, (spFail 70 (a3, a4, a5)).snd.fst, ()), ((spFail 70 (a3, a4, a5)).snd.snd, 130048, ()), ())) else none else bif a0 then bif decide (a6 = 130048) && decide (a5.length ≤ 130048) then some (Out.ret ((), ((), a2, (spPutE (-1) 4 (a3, a4, a5)).fst, (spPutE (-1) 4 (a3, a4, a5)).snd.fst, ()), ((spPutE (-1) 4 (a3, a4, a5)).snd.snd, 130048, ()), ())) else none else bif decide (a6 = 130048) && decide (a5.length ≤ 130048) then bif spWok (spPutE (IntKind.i32.wrap (↑a1.length : Int)) 4 (a3, a4, a5)).snd.snd 130048 && decide (spSumLen [a1] ≤ 4294960000) then bif decide (130048 = 130048) && decide ((spRaw (spPutE (IntKind.i32.wrap (↑a1.length : Int)) 4 (a3, a4, a5)).snd.snd 130048 [a1]).snd.length ≤ 130048) then some (Out.ret ((), ((), a2, (spPutE (IntKind.i32.wrap (↑a1.length : Int)) 4 (a3, a4, a5)).fst, (spPutE (IntKind.i32.wrap (↑a1.length : Int)) 4 (a3, a4, a5)).snd.fst || decide ((spRaw (spPutE (IntKind.i32.wrap (↑a1.length : Int)) 4 (a3, a4, a5)).snd.snd 130048 [a1]).fst ≠ 0), ()), ((spRaw (spPutE (IntKind.i32.wrap (↑a1.length : Int)) 4 (a3, a4, a5)).snd.snd 130048 [a1]).snd, 130048, ()), ())) else none else none else none else bif a0 then bif decide (a6 = 130048) && decide (a5.length ≤ 130048) then some (Out.ret ((), ((), a2, (spPutE (-1) 4 (a3, a4, a5)).fst, (spPutE (-1) 4 (a3, a4, a5)).snd.fst, ()), ((spPutE (-1) 4 (a3, a4, a5)).snd.snd, 130048, ()), ())) else none else bif decide (a6 = 130048) && decide (a5.length ≤ 130048) then bif spWok (spPutE (IntKind.i32.wrap (↑a1.length : Int)) 4 (a3, a4, a5)).snd.snd 130048 && decide (spSumLen [a1] ≤ 4294960000) then bif decide (130048 = 130048) && decide ((spRaw (spPutE (IntKind.i32.wrap (↑a1.length : Int)) 4 (a3, a4, a5)).snd.snd 130048 [a1]).snd.length ≤ 130048) then some (Out.ret ((), ((), a2, (spPutE (IntKind.i32.wrap (↑a1.length : Int)) 4 (a3, a4, a5)).fst, (spPutE (IntKind.i32.wrap (↑a1.length : Int)) 4 (a3, a4, a5)).snd.fst || decide ((spRaw (spPutE (IntKind.i32.wrap (↑a1.length : Int)) 4 (a3, a4, a5)).snd.snd 130048 [a1]).fst ≠ 0), ()), ((spRaw (spPutE (IntKind.i32.wrap (↑a1.length : Int)) 4 (a3, a4, a5)).snd.snd 130048 [a1]).snd, 130048, ()), ())) else none else none else none
theorem runeBlob (a0 : Bool) (a1 : List Int) (a2 : Int) (a3 : Int) (a4 : Bool) (a5 : List Int) (a6 : Int) : Io.run tt hdeBlob dr lpeBlob ioeBlob Go.Proofs.Tryz.f47 (((), (a0, a1, ()), ()), ((), a2, a3, a4, ()), (a5, a6, ()), ()) = bodyeBlob a0 a1 a2 a3 a4 a5 a6 := by kernel_rfl
theorem okeBlob : HcOk prog 47 (ioHd ioeBlob FeBlob) := by
  refine fn_sound (n := 400) hm (cs := cseBlob) (.cons okeFail (.cons okeI32 (.cons okwRaw (.cons okenoted .nil)))) (lp := lpeBlob) (fn := Go.Proofs.Tryz.f47) (by kernel_rfl) (by kernel_rfl) (by kernel_rfl) ioeBlob (.done (by kernel_rfl)) FeBlob ?_
  rintro ⟨⟨⟨⟩, ⟨(z : Bool), (t : List Int), ⟨⟩⟩, ⟨⟩⟩, ⟨⟨⟨⟩, (v : Int), (e : Int), (f : Bool), ⟨⟩⟩, ⟨(b : List Int), (m : Int), ⟨⟩⟩, ⟨⟩⟩⟩ out hw ho
  obtain ⟨hg, ho⟩ := Tr.guard ho
  obtain ⟨hg, ht⟩ := Bool.and_eq_true_iff.1 hg
  have ht : t.length ≤ 2147483647 := of_decide_eq_true ht
  obtain ⟨rfl, hb⟩ := encOk_iff hg
  cases ho
  refine (runeBlob z t v e f b 130048).trans ?_
  unfold bodyeBlob
  have g : (decide ((130048 : Int) = 130048) && decide (b.length ≤ 130048)) = true := by simpa using hb
  show _ = some (Out.ret ((), encOut v (spBlobE (z, (t, ())) (e, f, b))))
  unfold spBlobE
  rw [g]
  simp only [cond_true]
  cases z
  · simp only [cond_false, Bool.false_eq_true, false_and, if_false]
    exact encRaw t (spPutE_le (s := (e, f, b)) _ 4 hb) (by omega)
  · by_cases h : 0 < t.length
    · rw [bif_true (by rfl), bif_true (by simpa using h), if_pos ⟨rfl, h⟩]
    · rw [bif_true (by rfl), bif_false (by simpa using h), if_neg (fun c => h c.2), if_pos rfl]
      rfl

/-! ### leat/wire.NewEnc -/
noncomputable abbrev ioeNew : Io := ⟨[dI], [], oEnc, [.ptr 0 0], none⟩
noncomputable def spNewE (v : Int) : Int := if v < 0 ∨ 3 < v then 8 else 0
noncomputable def FeNew (d : ioeNew.In) : Tr ioeNew.Res := .ret (.ret (((), ()), encOut d.1.1 (spNewE d.1.1, (false, ([] : List Int)))))
noncomputable abbrev cseNew : List (Nat × Hc) := [(85, ioHd iowNew FwNew), (100, ioHd ioeFail FeFail)]
noncomputable def hdeNew : Hd := hdT cseNew
noncomputable def lpeNew : Lp := lpT []

noncomputable def bodyeNew (a0 : Int) : Option ioeNew.Res := bif decide (a0 < 0) then some (Out.ret (((), ()), ((), a0, 8, false, ()), ([], 130048, ()), ())) else bif decide (3 < a0) then some (Out.ret (((), ()), ((), a0, 8, false, ()), ([], 130048, ()), ())) else some (Out.ret (((), ()), ((), a0, 0, false, ()), ([], spMin (spMax 130048 0) 1048576, ()), ()))
theorem runeNew (a0 : Int) : Io.run tt hdeNew dr lpeNew ioeNew Go.Proofs.Tryz.f36 ((a0, ()), ()) = bodyeNew a0 := by kernel_rfl
theorem okeNew : HcOk prog 36 (ioHd ioeNew FeNew) := by
  refine fn_sound (n := 400) hm (cs := cseNew) (.cons okwNew (.cons okeFail .nil)) (lp := lpeNew) (fn := Go.Proofs.Tryz.f36) (by kernel_rfl) (by kernel_rfl) (by kernel_rfl) ioeNew (.done (by kernel_rfl)) FeNew ?_
  rintro ⟨⟨(v : Int), ⟨⟩⟩, ⟨⟩⟩ out hw ho
  cases ho
  refine (runeNew v).trans ?_
  unfold bodyeNew
  have e : spMin (spMax 130048 0) 1048576 = 130048 := by decide
  show _ = some (Out.ret (((), ()), encOut v (if v < 0 ∨ 3 < v then 8 else 0, (false, ([] : List Int)))))
  by_cases h1 : v < 0
  · rw [bif_true (by simpa using h1), if_pos (.inl h1)]
  · rw [bif_false (by simpa using h1)]
    by_cases h2 : 3 < v
    · rw [bif_true (by simpa using h2), if_pos (.inr h2)]
    · rw [bif_false (by simpa using h2), if_neg (by omega), e]

/-! ### (*leat/wire.Enc).Done -/
noncomputable abbrev ioeDone : Io := ⟨[.ptr 0 0], oEnc, [], [dO, dI], none⟩
noncomputable def spDoneE (s : EnS) : Int := if s.1 = 0 then (if s.2.1 = true then 4 else 0) else s.1
noncomputable def spDoneO (s : EnS) : List Int := if spDoneE s = 0 then s.2.2 else []
noncomputable def FeDone (d : ioeDone.In) : Tr ioeDone.Res := .ite (encOk d.2) (.ret (.ret ((spDoneO (encSt d.2), (spDoneE (encSt d.2), ())), encOut d.2.1.2.1 (spDoneE (encSt d.2), (d.2.1.2.2.2.1, d.2.2.1.1))))) .no
noncomputable abbrev cseDone : List (Nat × Hc) := [(87, ioHd iowBytes FwBytes)]
noncomputable def hdeDone : Hd := hdT cseDone
noncomputable def lpeDone : Lp := lpT []

noncomputable def bodyeDone (a0 : Int) (a1 : Int) (a2 : Bool) (a3 : List Int) (a4 : Int) : Option ioeDone.Res := bif a1 == 0 then bif a2 then some (Out.ret (([], 4, ()), ((), a0, 4, a2, ()), (a3, a4, ()), ())) else bif a1 != 0 then some (Out.ret (([], a1, ()), ((), a0, a1, a2, ()), (a3, a4, ()), ())) else bif decide (a3.length ≤ 4294967296) then some (Out.ret ((a3, 0, ()), ((), a0, a1, a2, ()), (a3, a4, ()), ())) else none else bif a1 != 0 then some (Out.ret (([], a1, ()), ((), a0, a1, a2, ()), (a3, a4, ()), ())) else bif decide (a3.length ≤ 4294967296) then some (Out.ret ((a3, 0, ()), ((), a0, a1, a2, ()), (a3, a4, ()), ())) else none
theorem runeDone (a0 : Int) (a1 : Int) (a2 : Bool) (a3 : List Int) (a4 : Int) : Io.run tt hdeDone dr lpeDone ioeDone Go.Proofs.Tryz.f48 (((), ()), ((), a0, a1, a2, ()), (a3, a4, ()), ()) = bodyeDone a0 a1 a2 a3 a4 := by kernel_rfl
theorem okeDone : HcOk prog 48 (ioHd ioeDone FeDone) := by
  refine fn_sound (n := 400) hm (cs := cseDone) (.cons okwBytes .nil) (lp := lpeDone) (fn := Go.Proofs.Tryz.f48) (by kernel_rfl) (by kernel_rfl) (by kernel_rfl) ioeDone (.done (by kernel_rfl)) FeDone ?_
  rintro ⟨⟨⟨⟩, ⟨⟩⟩, ⟨⟨⟨⟩, (v : Int), (e : Int), (f : Bool), ⟨⟩⟩, ⟨(b : List Int), (m : Int), ⟨⟩⟩, ⟨⟩⟩⟩ out hw ho
  obtain ⟨hg, ho⟩ := Tr.guard ho
  obtain ⟨rfl, hb⟩ := encOk_iff hg
  cases ho
  refine (runeDone v e f b 130048).trans ?_
  unfold bodyeDone
  unfold spDoneO
  show _ = some (Out.ret (((if spDoneE (e, f, b) = 0 then b else [] : List Int), (spDoneE (e, f, b), ())), encOut v (spDoneE (e, f, b), (f, b))))
  have g : decide (b.length ≤ 4294967296) = true := by simp; omega
  unfold spDoneE
  rw [g]
  simp only [cond_true]
  by_cases h : e = 0
  · subst h
    cases f
    · rw [bif_true (by rfl), bif_false (by rfl), bif_false (by rfl)]; rfl
    · rw [bif_true (by rfl), bif_true (by rfl)]; rfl
  · rw [bif_false (by simpa using h), bif_true (by simpa using h), if_neg h, if_neg h]
end
end Go.Proofs.YtmlgepgcofmpeaaGreat.Sym

/- wire.Dec: NewDec, Has, number, I16, I32, I64, take, text, Str, Name, Blob, End. The contracts whose names end in Z speak of a Dec that has no reader (its version or its size is out of the bounds). -/
namespace Go.Proofs.YtmlgepgcofmpeaaGreat.Sym
open Go
set_option linter.unusedSimpArgs false
set_option linter.unusedVariables false
noncomputable section

noncomputable abbrev oDec : List (List Sh) := [[.ptr 1 0, dI, dI], [dL, dI]]
noncomputable abbrev oDecZ : List (List Sh) := [[.nil, dI, dI]]
noncomputable abbrev oDec2 : List (List Sh) := [[.ptr 1 0, dI, dI], [dL, dI], [.ptr 0 0], [dI]]
noncomputable abbrev oDecT : List (List Sh) := [[.ptr 2 0], [dI], [.ptr 3 0, dI, dI], [dL, dI]]
/-- The error, the place. -/
abbrev DeS : Type := Int × Int
noncomputable abbrev decSt (d : DenO oDec) : DeS := (d.1.2.2.1, d.2.1.2.1)
noncomputable abbrev decOut (v : Int) (b : List Int) (s : DeS) : DenO oDec := (((), (v, (s.1, ()))), ((b, (s.2, ())), ()))
def spDok (b : List Int) (p : Int) : Bool := decide (b.length ≤ 130048) && (decide (0 ≤ p) && decide (p ≤ (b.length : Int)))
noncomputable abbrev decOk (d : DenO oDec) : Bool := spDok d.2.1.1 d.2.1.2.1
/-- A number by the reader itself. -/
noncomputable def spRn (k : IntKind) (n : Nat) (b : List Int) (p : Int) : Int × DeS := (k.wrap (spRd b p n).1, ((spRd b p n).2.2, (spRd b p n).2.1))
noncomputable def spDn (k : IntKind) (n : Nat) (b : List Int) (s : DeS) : Int × DeS := if s.1 = 0 then (k.wrap (spRd b s.2 n).1, ((spRd b s.2 n).2.2, (spRd b s.2 n).2.1)) else (0, s)
noncomputable def spDTake (b : List Int) (n : Int) (s : DeS) : List Int × DeS := if s.1 = 0 then (if n < 0 then ([], (5, s.2)) else ((spTakeB b s.2 n).1, ((spTakeB b s.2 n).2.2, (spTakeB b s.2 n).2.1))) else ([], s)
noncomputable def spDLong (n : Int) (s : DeS) : DeS := if 255 < n then (4, s.2) else s
noncomputable def spDText (b : List Int) (n : Int) (s : DeS) : List Int × DeS := if (spUtf (spDTake b n (spDLong n s)).1).2 = true then spDTake b n (spDLong n s) else ([], (6, (spDTake b n (spDLong n s)).2.2))

theorem spRok_of {b : List Int} {p : Int} (h : spDok b p = true) : spRok b p = true := by
  simp only [spDok, spRok, Bool.and_eq_true, decide_eq_true_eq] at h ⊢
  exact ⟨by omega, h.2⟩
theorem spRd_ok {b : List Int} {p : Int} (n : Nat) (h : spDok b p = true) : spDok b (spRd b p n).2.1 = true := by
  unfold spRd
  split
  · exact h
  · simp only [spDok, Bool.and_eq_true, decide_eq_true_eq] at h ⊢
    exact ⟨h.1, by omega, by omega⟩
theorem spTakeB_ok {b : List Int} {p : Int} (n : Int) (h : spDok b p = true) : spDok b (spTakeB b p n).2.1 = true := by
  unfold spTakeB
  split
  · exact h
  · split
    · exact h
    · simp only [spDok, Bool.and_eq_true, decide_eq_true_eq] at h ⊢
      exact ⟨h.1, by omega, by omega⟩
theorem spDn_ok {b : List Int} {s : DeS} (k : IntKind) (n : Nat) (h : spDok b s.2 = true) : spDok b (spDn k n b s).2.2 = true := by
  unfold spDn
  split
  · exact spRd_ok n h
  · exact h
theorem spDn_i16 (b : List Int) (n : Nat) (s : DeS) : IntKind.i64.wrap (spDn .i16 n b s).1 = (spDn .i16 n b s).1 := by
  unfold spDn
  split
  · have h := inR_wrap .i16 (spRd b s.2 n).1
    simp only [inR, IntKind.min, IntKind.max, IntKind.signed, IntKind.bits] at h
    exact wrap_i64 (by simp at h; omega) (by simp at h; omega)
  · rfl
theorem spDn_i32 (b : List Int) (n : Nat) (s : DeS) : IntKind.i64.wrap (spDn .i32 n b s).1 = (spDn .i32 n b s).1 := by
  unfold spDn
  split
  · have h := inR_wrap .i32 (spRd b s.2 n).1
    simp only [inR, IntKind.min, IntKind.max, IntKind.signed, IntKind.bits] at h
    exact wrap_i64 (by simp at h; omega) (by simp at h; omega)
  · rfl
theorem spDTake_ok {b : List Int} {s : DeS} (n : Int) (h : spDok b s.2 = true) : spDok b (spDTake b n s).2.2 = true := by
  unfold spDTake
  split
  · split
    · exact h
    · exact spTakeB_ok n h
  · exact h
theorem spDLong_ok {b : List Int} {s : DeS} (n : Int) (h : spDok b s.2 = true) : spDok b (spDLong n s).2 = true := by
  unfold spDLong
  split <;> exact h
theorem spDText_ok {b : List Int} {s : DeS} (n : Int) (h : spDok b s.2 = true) : spDok b (spDText b n s).2.2 = true := by
  unfold spDText
  split
  · exact spDTake_ok n (spDLong_ok n h)
  · exact spDTake_ok n (spDLong_ok n h)
/-! ### leat/wire.number[int16] -/
noncomputable abbrev iodN16 : Io := ⟨[.ptr 0 0, .fnc 111 true [1]], oDec, [], [d16], none⟩
noncomputable def FdN16 (d : iodN16.In) : Tr iodN16.Res := .ite (decOk d.2) (.ret (.ret ((IntKind.i16.wrap (spRd d.2.2.1.1 d.2.2.1.2.1 2).1, ()), decOut d.2.1.2.1 d.2.2.1.1 ((spRd d.2.2.1.1 d.2.2.1.2.1 2).2.2, (spRd d.2.2.1.1 d.2.2.1.2.1 2).2.1)))) .no
noncomputable abbrev csdN16 : List (Nat × Hc) := [(111, ioHd iordI16 FrdI16)]
noncomputable def hddN16 : Hd := hdT csdN16
noncomputable def lpdN16 : Lp := lpT []

noncomputable def bodydN16 (a0 : Int) (a1 : Int) (a2 : List Int) (a3 : Int) : Option iodN16.Res := bif spRok a2 a3 then some (Out.ret ((IntKind.i16.wrap (spRd a2 a3 2).fst, ()), ((), a0, (spRd a2 a3 2).snd.snd, ()), (a2, (spRd a2 a3 2).snd.fst, ()), ())) else none
theorem rundN16 (a0 : Int) (a1 : Int) (a2 : List Int) (a3 : Int) : Io.run tt hddN16 dr lpdN16 iodN16 Go.Proofs.Tryz.f110 (((), (), ()), ((), a0, a1, ()), (a2, a3, ()), ()) = bodydN16 a0 a1 a2 a3 := by kernel_rfl
theorem okdN16 : HcOk prog 110 (ioHd iodN16 FdN16) := by
  refine fn_sound (n := 400) hm (cs := csdN16) (.cons okrdI16 .nil) (lp := lpdN16) (fn := Go.Proofs.Tryz.f110) (by kernel_rfl) (by kernel_rfl) (by kernel_rfl) iodN16 (.done (by kernel_rfl)) FdN16 ?_
  rintro ⟨⟨⟨⟩, ⟨⟩, ⟨⟩⟩, ⟨⟨⟩, (v : Int), (e : Int), ⟨⟩⟩, ⟨(b : List Int), (p : Int), ⟨⟩⟩, ⟨⟩⟩ out hw ho
  obtain ⟨hg, ho⟩ := Tr.guard ho
  have hg : spDok b p = true := hg
  cases ho
  refine (rundN16 v e b p).trans ?_
  unfold bodydN16
  exact bif_true (spRok_of hg) _ _
/-! ### leat/wire.number[int32] -/
noncomputable abbrev iodN32 : Io := ⟨[.ptr 0 0, .fnc 113 true [1]], oDec, [], [dS32], none⟩
noncomputable def FdN32 (d : iodN32.In) : Tr iodN32.Res := .ite (decOk d.2) (.ret (.ret ((IntKind.i32.wrap (spRd d.2.2.1.1 d.2.2.1.2.1 4).1, ()), decOut d.2.1.2.1 d.2.2.1.1 ((spRd d.2.2.1.1 d.2.2.1.2.1 4).2.2, (spRd d.2.2.1.1 d.2.2.1.2.1 4).2.1)))) .no
noncomputable abbrev csdN32 : List (Nat × Hc) := [(113, ioHd iordI32 FrdI32)]
noncomputable def hddN32 : Hd := hdT csdN32
noncomputable def lpdN32 : Lp := lpT []

noncomputable def bodydN32 (a0 : Int) (a1 : Int) (a2 : List Int) (a3 : Int) : Option iodN32.Res := bif spRok a2 a3 then some (Out.ret ((IntKind.i32.wrap (spRd a2 a3 4).fst, ()), ((), a0, (spRd a2 a3 4).snd.snd, ()), (a2, (spRd a2 a3 4).snd.fst, ()), ())) else none
theorem rundN32 (a0 : Int) (a1 : Int) (a2 : List Int) (a3 : Int) : Io.run tt hddN32 dr lpdN32 iodN32 Go.Proofs.Tryz.f112 (((), (), ()), ((), a0, a1, ()), (a2, a3, ()), ()) = bodydN32 a0 a1 a2 a3 := by kernel_rfl
theorem okdN32 : HcOk prog 112 (ioHd iodN32 FdN32) := by
  refine fn_sound (n := 400) hm (cs := csdN32) (.cons okrdI32 .nil) (lp := lpdN32) (fn := Go.Proofs.Tryz.f112) (by kernel_rfl) (by kernel_rfl) (by kernel_rfl) iodN32 (.done (by kernel_rfl)) FdN32 ?_
  rintro ⟨⟨⟨⟩, ⟨⟩, ⟨⟩⟩, ⟨⟨⟩, (v : Int), (e : Int), ⟨⟩⟩, ⟨(b : List Int), (p : Int), ⟨⟩⟩, ⟨⟩⟩ out hw ho
  obtain ⟨hg, ho⟩ := Tr.guard ho
  have hg : spDok b p = true := hg
  cases ho
  refine (rundN32 v e b p).trans ?_
  unfold bodydN32
  exact bif_true (spRok_of hg) _ _
/-! ### leat/wire.number[int64] -/
noncomputable abbrev iodN64 : Io := ⟨[.ptr 0 0, .fnc 116 true [1]], oDec, [], [d64s], none⟩
noncomputable def FdN64 (d : iodN64.In) : Tr iodN64.Res := .ite (decOk d.2) (.ret (.ret ((IntKind.i64.wrap (spRd d.2.2.1.1 d.2.2.1.2.1 8).1, ()), decOut d.2.1.2.1 d.2.2.1.1 ((spRd d.2.2.1.1 d.2.2.1.2.1 8).2.2, (spRd d.2.2.1.1 d.2.2.1.2.1 8).2.1)))) .no
noncomputable abbrev csdN64 : List (Nat × Hc) := [(116, ioHd iordI64 FrdI64)]
noncomputable def hddN64 : Hd := hdT csdN64
noncomputable def lpdN64 : Lp := lpT []

noncomputable def bodydN64 (a0 : Int) (a1 : Int) (a2 : List Int) (a3 : Int) : Option iodN64.Res := bif spRok a2 a3 then some (Out.ret ((IntKind.i64.wrap (spRd a2 a3 8).fst, ()), ((), a0, (spRd a2 a3 8).snd.snd, ()), (a2, (spRd a2 a3 8).snd.fst, ()), ())) else none
theorem rundN64 (a0 : Int) (a1 : Int) (a2 : List Int) (a3 : Int) : Io.run tt hddN64 dr lpdN64 iodN64 Go.Proofs.Tryz.f115 (((), (), ()), ((), a0, a1, ()), (a2, a3, ()), ()) = bodydN64 a0 a1 a2 a3 := by kernel_rfl
theorem okdN64 : HcOk prog 115 (ioHd iodN64 FdN64) := by
  refine fn_sound (n := 400) hm (cs := csdN64) (.cons okrdI64 .nil) (lp := lpdN64) (fn := Go.Proofs.Tryz.f115) (by kernel_rfl) (by kernel_rfl) (by kernel_rfl) iodN64 (.done (by kernel_rfl)) FdN64 ?_
  rintro ⟨⟨⟨⟩, ⟨⟩, ⟨⟩⟩, ⟨⟨⟩, (v : Int), (e : Int), ⟨⟩⟩, ⟨(b : List Int), (p : Int), ⟨⟩⟩, ⟨⟩⟩ out hw ho
  obtain ⟨hg, ho⟩ := Tr.guard ho
  have hg : spDok b p = true := hg
  cases ho
  refine (rundN64 v e b p).trans ?_
  unfold bodydN64
  exact bif_true (spRok_of hg) _ _
/-! ### (*leat/wire.Dec).take$1 -/
noncomputable abbrev iodTk : Io := ⟨[.ptr 0 0, .ptr 1 0], oDecT, [], [dO, dI], none⟩
noncomputable def FdTk (d : iodTk.In) : Tr iodTk.Res := .ite (spDok d.2.2.2.2.1.1 d.2.2.2.2.1.2.1) (.ret (.ret (((spTakeB d.2.2.2.2.1.1 d.2.2.2.2.1.2.1 d.2.2.1.1).1, ((spTakeB d.2.2.2.2.1.1 d.2.2.2.2.1.2.1 d.2.2.1.1).2.2, ())), (((), ()), (d.2.2.1, (d.2.2.2.1, ((d.2.2.2.2.1.1, ((spTakeB d.2.2.2.2.1.1 d.2.2.2.2.1.2.1 d.2.2.1.1).2.1, ())), ()))))))) .no
noncomputable abbrev csdTk : List (Nat × Hc) := [(139, ioHd iordTake FrdTake)]
noncomputable def hddTk : Hd := hdT csdTk
noncomputable def lpdTk : Lp := lpT []

noncomputable def bodydTk (a0 : Int) (a1 : Int) (a2 : Int) (a3 : List Int) (a4 : Int) : Option iodTk.Res := bif spRok a3 a4 then some (Out.ret (((spTakeB a3 a4 a0).fst, (spTakeB a3 a4 a0).snd.snd, ()), ((), ()), (a0, ()), ((), a1, a2, ()), (a3, (spTakeB a3 a4 a0).snd.fst, ()), ())) else none
theorem rundTk (a0 : Int) (a1 : Int) (a2 : Int) (a3 : List Int) (a4 : Int) : Io.run tt hddTk dr lpdTk iodTk Go.Proofs.Tryz.f138 (((), (), ()), ((), ()), (a0, ()), ((), a1, a2, ()), (a3, a4, ()), ()) = bodydTk a0 a1 a2 a3 a4 := by kernel_rfl
theorem okdTk : HcOk prog 138 (ioHd iodTk FdTk) := by
  refine fn_sound (n := 400) hm (cs := csdTk) (.cons okrdTake .nil) (lp := lpdTk) (fn := Go.Proofs.Tryz.f138) (by kernel_rfl) (by kernel_rfl) (by kernel_rfl) iodTk (.done (by kernel_rfl)) FdTk ?_
  rintro ⟨⟨⟨⟩, ⟨⟩, ⟨⟩⟩, ⟨⟨⟩, ⟨⟩⟩, ⟨(n : Int), ⟨⟩⟩, ⟨⟨⟩, (v : Int), (e : Int), ⟨⟩⟩, ⟨(b : List Int), (p : Int), ⟨⟩⟩, ⟨⟩⟩ out hw ho
  obtain ⟨hg, ho⟩ := Tr.guard ho
  have hg : spDok b p = true := hg
  cases ho
  refine (rundTk n v e b p).trans ?_
  unfold bodydTk
  exact bif_true (spRok_of hg) _ _

/-! ### leat/wire.number[[]byte] -/
noncomputable abbrev iodNb : Io := ⟨[.ptr 0 0, .fnc 138 false [2, 3]], oDec2, [], [dO], none⟩
noncomputable def FdNb (d : iodNb.In) : Tr iodNb.Res := .ite (spDok d.2.2.1.1 d.2.2.1.2.1) (.ret (.ret (((spTakeB d.2.2.1.1 d.2.2.1.2.1 d.2.2.2.2.1.1).1, ()), (((), (d.2.1.2.1, ((spTakeB d.2.2.1.1 d.2.2.1.2.1 d.2.2.2.2.1.1).2.2, ()))), ((d.2.2.1.1, ((spTakeB d.2.2.1.1 d.2.2.1.2.1 d.2.2.2.2.1.1).2.1, ())), (((), ()), (d.2.2.2.2.1, ()))))))) .no
noncomputable abbrev csdNb : List (Nat × Hc) := [(138, ioHd iodTk FdTk)]
noncomputable def hddNb : Hd := hdT csdNb
noncomputable def lpdNb : Lp := lpT []

noncomputable def bodydNb (a0 : Int) (a1 : Int) (a2 : List Int) (a3 : Int) (a4 : Int) : Option iodNb.Res := bif spDok a2 a3 then some (Out.ret (((spTakeB a2 a3 a4).fst, ()), ((), a0, (spTakeB a2 a3 a4).snd.snd, ()), (a2, (spTakeB a2 a3 a4).snd.fst, ()), ((), ()), (a4, ()), ())) else none
theorem rundNb (a0 : Int) (a1 : Int) (a2 : List Int) (a3 : Int) (a4 : Int) : Io.run tt hddNb dr lpdNb iodNb Go.Proofs.Tryz.f137 (((), (), ()), ((), a0, a1, ()), (a2, a3, ()), ((), ()), (a4, ()), ()) = bodydNb a0 a1 a2 a3 a4 := by kernel_rfl
theorem okdNb : HcOk prog 137 (ioHd iodNb FdNb) := by
  refine fn_sound (n := 400) hm (cs := csdNb) (.cons okdTk .nil) (lp := lpdNb) (fn := Go.Proofs.Tryz.f137) (by kernel_rfl) (by kernel_rfl) (by kernel_rfl) iodNb (.done (by kernel_rfl)) FdNb ?_
  rintro ⟨⟨⟨⟩, ⟨⟩, ⟨⟩⟩, ⟨⟨⟩, (v : Int), (e : Int), ⟨⟩⟩, ⟨(b : List Int), (p : Int), ⟨⟩⟩, ⟨⟨⟩, ⟨⟩⟩, ⟨(n : Int), ⟨⟩⟩, ⟨⟩⟩ out hw ho
  obtain ⟨hg, ho⟩ := Tr.guard ho
  have hg : spDok b p = true := hg
  cases ho
  refine (rundNb v e b p n).trans ?_
  unfold bodydNb
  exact bif_true hg _ _

/-! ### (*leat/wire.Dec).I16 -/
noncomputable abbrev iodI16 : Io := ⟨[.ptr 0 0], oDec, [], [d16], none⟩
noncomputable def FdI16 (d : iodI16.In) : Tr iodI16.Res := .ite (decOk d.2) (.ret (.ret (((spDn .i16 2 d.2.2.1.1 (decSt d.2)).1, ()), decOut d.2.1.2.1 d.2.2.1.1 (spDn .i16 2 d.2.2.1.1 (decSt d.2)).2))) .no
noncomputable abbrev csdI16 : List (Nat × Hc) := [(110, ioHd iodN16 FdN16)]
noncomputable def hddI16 : Hd := hdT csdI16
noncomputable def lpdI16 : Lp := lpT []

noncomputable def bodydI16 (a0 : Int) (a1 : Int) (a2 : List Int) (a3 : Int) : Option iodI16.Res := bif a1 != 0 then some (Out.ret ((0, ()), ((), a0, a1, ()), (a2, a3, ()), ())) else bif spDok a2 a3 then some (Out.ret ((IntKind.i16.wrap (spRd a2 a3 2).fst, ()), ((), a0, (spRd a2 a3 2).snd.snd, ()), (a2, (spRd a2 a3 2).snd.fst, ()), ())) else none
theorem rundI16 (a0 : Int) (a1 : Int) (a2 : List Int) (a3 : Int) : Io.run tt hddI16 dr lpdI16 iodI16 Go.Proofs.Tryz.f63 (((), ()), ((), a0, a1, ()), (a2, a3, ()), ()) = bodydI16 a0 a1 a2 a3 := by kernel_rfl
theorem okdI16 : HcOk prog 63 (ioHd iodI16 FdI16) := by
  refine fn_sound (n := 400) hm (cs := csdI16) (.cons okdN16 .nil) (lp := lpdI16) (fn := Go.Proofs.Tryz.f63) (by kernel_rfl) (by kernel_rfl) (by kernel_rfl) iodI16 (.done (by kernel_rfl)) FdI16 ?_
  rintro ⟨⟨⟨⟩, ⟨⟩⟩, ⟨⟨⟩, (v : Int), (e : Int), ⟨⟩⟩, ⟨(b : List Int), (p : Int), ⟨⟩⟩, ⟨⟩⟩ out hw ho
  obtain ⟨hg, ho⟩ := Tr.guard ho
  have hg : spDok b p = true := hg
  cases ho
  refine (rundI16 v e b p).trans ?_
  unfold bodydI16
  show _ = some (Out.ret (((spDn .i16 2 b (e, p)).1, ()), decOut v b (spDn .i16 2 b (e, p)).2))
  unfold spDn
  by_cases h : e = 0
  · rw [if_pos h]
    refine (bif_false (by simpa using h) _ _).trans ?_
    exact bif_true hg _ _
  · rw [if_neg h]
    exact bif_true (by simpa using h) _ _
/-! ### (*leat/wire.Dec).I32 -/
noncomputable abbrev iodI32 : Io := ⟨[.ptr 0 0], oDec, [], [dS32], none⟩
noncomputable def FdI32 (d : iodI32.In) : Tr iodI32.Res := .ite (decOk d.2) (.ret (.ret (((spDn .i32 4 d.2.2.1.1 (decSt d.2)).1, ()), decOut d.2.1.2.1 d.2.2.1.1 (spDn .i32 4 d.2.2.1.1 (decSt d.2)).2))) .no
noncomputable abbrev csdI32 : List (Nat × Hc) := [(112, ioHd iodN32 FdN32)]
noncomputable def hddI32 : Hd := hdT csdI32
noncomputable def lpdI32 : Lp := lpT []

noncomputable def bodydI32 (a0 : Int) (a1 : Int) (a2 : List Int) (a3 : Int) : Option iodI32.Res := bif a1 != 0 then some (Out.ret ((0, ()), ((), a0, a1, ()), (a2, a3, ()), ())) else bif spDok a2 a3 then some (Out.ret ((IntKind.i32.wrap (spRd a2 a3 4).fst, ()), ((), a0, (spRd a2 a3 4).snd.snd, ()), (a2, (spRd a2 a3 4).snd.fst, ()), ())) else none
theorem rundI32 (a0 : Int) (a1 : Int) (a2 : List Int) (a3 : Int) : Io.run tt hddI32 dr lpdI32 iodI32 Go.Proofs.Tryz.f64 (((), ()), ((), a0, a1, ()), (a2, a3, ()), ()) = bodydI32 a0 a1 a2 a3 := by kernel_rfl
theorem okdI32 : HcOk prog 64 (ioHd iodI32 FdI32) := by
  refine fn_sound (n := 400) hm (cs := csdI32) (.cons okdN32 .nil) (lp := lpdI32) (fn := Go.Proofs.Tryz.f64) (by kernel_rfl) (by kernel_rfl) (by kernel_rfl) iodI32 (.done (by kernel_rfl)) FdI32 ?_
  rintro ⟨⟨⟨⟩, ⟨⟩⟩, ⟨⟨⟩, (v : Int), (e : Int), ⟨⟩⟩, ⟨(b : List Int), (p : Int), ⟨⟩⟩, ⟨⟩⟩ out hw ho
  obtain ⟨hg, ho⟩ := Tr.guard ho
  have hg : spDok b p = true := hg
  cases ho
  refine (rundI32 v e b p).trans ?_
  unfold bodydI32
  show _ = some (Out.ret (((spDn .i32 4 b (e, p)).1, ()), decOut v b (spDn .i32 4 b (e, p)).2))
  unfold spDn
  by_cases h : e = 0
  · rw [if_pos h]
    refine (bif_false (by simpa using h) _ _).trans ?_
    exact bif_true hg _ _
  · rw [if_neg h]
    exact bif_true (by simpa using h) _ _
/-! ### (*leat/wire.Dec).I64 -/
noncomputable abbrev iodI64 : Io := ⟨[.ptr 0 0], oDec, [], [d64s], none⟩
noncomputable def FdI64 (d : iodI64.In) : Tr iodI64.Res := .ite (decOk d.2) (.ret (.ret (((spDn .i64 8 d.2.2.1.1 (decSt d.2)).1, ()), decOut d.2.1.2.1 d.2.2.1.1 (spDn .i64 8 d.2.2.1.1 (decSt d.2)).2))) .no
noncomputable abbrev csdI64 : List (Nat × Hc) := [(115, ioHd iodN64 FdN64)]
noncomputable def hddI64 : Hd := hdT csdI64
noncomputable def lpdI64 : Lp := lpT []

noncomputable def bodydI64 (a0 : Int) (a1 : Int) (a2 : List Int) (a3 : Int) : Option iodI64.Res := bif a1 != 0 then some (Out.ret ((0, ()), ((), a0, a1, ()), (a2, a3, ()), ())) else bif spDok a2 a3 then some (Out.ret ((IntKind.i64.wrap (spRd a2 a3 8).fst, ()), ((), a0, (spRd a2 a3 8).snd.snd, ()), (a2, (spRd a2 a3 8).snd.fst, ()), ())) else none
theorem rundI64 (a0 : Int) (a1 : Int) (a2 : List Int) (a3 : Int) : Io.run tt hddI64 dr lpdI64 iodI64 Go.Proofs.Tryz.f76 (((), ()), ((), a0, a1, ()), (a2, a3, ()), ()) = bodydI64 a0 a1 a2 a3 := by kernel_rfl
theorem okdI64 : HcOk prog 76 (ioHd iodI64 FdI64) := by
  refine fn_sound (n := 400) hm (cs := csdI64) (.cons okdN64 .nil) (lp := lpdI64) (fn := Go.Proofs.Tryz.f76) (by kernel_rfl) (by kernel_rfl) (by kernel_rfl) iodI64 (.done (by kernel_rfl)) FdI64 ?_
  rintro ⟨⟨⟨⟩, ⟨⟩⟩, ⟨⟨⟩, (v : Int), (e : Int), ⟨⟩⟩, ⟨(b : List Int), (p : Int), ⟨⟩⟩, ⟨⟩⟩ out hw ho
  obtain ⟨hg, ho⟩ := Tr.guard ho
  have hg : spDok b p = true := hg
  cases ho
  refine (rundI64 v e b p).trans ?_
  unfold bodydI64
  show _ = some (Out.ret (((spDn .i64 8 b (e, p)).1, ()), decOut v b (spDn .i64 8 b (e, p)).2))
  unfold spDn
  by_cases h : e = 0
  · rw [if_pos h]
    refine (bif_false (by simpa using h) _ _).trans ?_
    exact bif_true hg _ _
  · rw [if_neg h]
    exact bif_true (by simpa using h) _ _
/-! ### (*leat/wire.Dec).take -/
noncomputable abbrev iodTake : Io := ⟨[.ptr 0 0, dI], oDec, [], [dO], none⟩
noncomputable def FdTake (d : iodTake.In) : Tr iodTake.Res := .ite (decOk d.2) (.ret (.ret (((spDTake d.2.2.1.1 d.1.2.1 (decSt d.2)).1, ()), decOut d.2.1.2.1 d.2.2.1.1 (spDTake d.2.2.1.1 d.1.2.1 (decSt d.2)).2))) .no
noncomputable abbrev csdTake : List (Nat × Hc) := [(137, ioHd iodNb FdNb)]
noncomputable def hddTake : Hd := hdT csdTake
noncomputable def lpdTake : Lp := lpT []

noncomputable def bodydTake (a0 : Int) (a1 : Int) (a2 : Int) (a3 : List Int) (a4 : Int) : Option iodTake.Res := bif a2 == 0 then bif decide (a0 < 0) then some (Out.ret (([], ()), ((), a1, 5, ()), (a3, a4, ()), ())) else bif a2 != 0 then some (Out.ret (([], ()), ((), a1, a2, ()), (a3, a4, ()), ())) else bif spDok a3 a4 then some (Out.ret (((spTakeB a3 a4 a0).fst, ()), ((), a1, (spTakeB a3 a4 a0).snd.snd, ()), (a3, (spTakeB a3 a4 a0).snd.fst, ()), ())) else none else bif a2 != 0 then some (Out.ret (([], ()), ((), a1, a2, ()), (a3, a4, ()), ())) else bif spDok a3 a4 then some (Out.ret (((spTakeB a3 a4 a0).fst, ()), ((), a1, (spTakeB a3 a4 a0).snd.snd, ()), (a3, (spTakeB a3 a4 a0).snd.fst, ()), ())) else none
theorem rundTake (a0 : Int) (a1 : Int) (a2 : Int) (a3 : List Int) (a4 : Int) : Io.run tt hddTake dr lpdTake iodTake Go.Proofs.Tryz.f114 (((), a0, ()), ((), a1, a2, ()), (a3, a4, ()), ()) = bodydTake a0 a1 a2 a3 a4 := by kernel_rfl
theorem okdTake : HcOk prog 114 (ioHd iodTake FdTake) := by
  refine fn_sound (n := 400) hm (cs := csdTake) (.cons okdNb .nil) (lp := lpdTake) (fn := Go.Proofs.Tryz.f114) (by kernel_rfl) (by kernel_rfl) (by kernel_rfl) iodTake (.done (by kernel_rfl)) FdTake ?_
  rintro ⟨⟨⟨⟩, (n : Int), ⟨⟩⟩, ⟨⟨⟩, (v : Int), (e : Int), ⟨⟩⟩, ⟨(b : List Int), (p : Int), ⟨⟩⟩, ⟨⟩⟩ out hw ho
  obtain ⟨hg, ho⟩ := Tr.guard ho
  have hg : spDok b p = true := hg
  cases ho
  refine (rundTake n v e b p).trans ?_
  unfold bodydTake
  show _ = some (Out.ret (((spDTake b n (e, p)).1, ()), decOut v b (spDTake b n (e, p)).2))
  unfold spDTake
  by_cases h : e = 0
  · rw [if_pos h]
    refine (bif_true (by simpa using h) _ _).trans ?_
    by_cases h2 : n < 0
    · rw [if_pos h2]
      exact bif_true (by simpa using h2) _ _
    · rw [if_neg h2]
      refine (bif_false (by simpa using h2) _ _).trans ?_
      refine (bif_false (by simpa using h) _ _).trans ?_
      exact bif_true hg _ _
  · rw [if_neg h]
    refine (bif_false (by simpa using h) _ _).trans ?_
    exact bif_true (by simpa using h) _ _

/-! ### (*leat/wire.Dec).I16 -/
noncomputable abbrev iodI16Z : Io := ⟨[.ptr 0 0], oDecZ, [], [d16], none⟩
noncomputable def FdI16Z (d : iodI16Z.In) : Tr iodI16Z.Res := .ite (decide (d.2.1.2.2.1 ≠ 0)) (.ret (.ret ((0, ()), d.2))) .no
noncomputable abbrev csdI16Z : List (Nat × Hc) := []
noncomputable def hddI16Z : Hd := hdT csdI16Z
noncomputable def lpdI16Z : Lp := lpT []

noncomputable def bodydI16Z (a0 : Int) (a1 : Int) : Option iodI16Z.Res := bif a1 != 0 then some (Out.ret ((0, ()), ((), a0, a1, ()), ())) else none
theorem rundI16Z (a0 : Int) (a1 : Int) : Io.run tt hddI16Z dr lpdI16Z iodI16Z Go.Proofs.Tryz.f63 (((), ()), ((), a0, a1, ()), ()) = bodydI16Z a0 a1 := by kernel_rfl
theorem okdI16Z : HcOk prog 63 (ioHd iodI16Z FdI16Z) := by
  refine fn_sound (n := 400) hm (cs := csdI16Z) HcsOk.nil (lp := lpdI16Z) (fn := Go.Proofs.Tryz.f63) (by kernel_rfl) (by kernel_rfl) (by kernel_rfl) iodI16Z (.done (by kernel_rfl)) FdI16Z ?_
  rintro ⟨⟨⟨⟩, ⟨⟩⟩, ⟨⟨⟩, (v : Int), (e : Int), ⟨⟩⟩, ⟨⟩⟩ out hw ho
  obtain ⟨hg, ho⟩ := Tr.guard ho
  have hg : e ≠ 0 := of_decide_eq_true hg
  cases ho
  refine (rundI16Z v e).trans ?_
  unfold bodydI16Z
  exact bif_true (by simpa using hg) _ _
/-! ### (*leat/wire.Dec).I32 -/
noncomputable abbrev iodI32Z : Io := ⟨[.ptr 0 0], oDecZ, [], [dS32], none⟩
noncomputable def FdI32Z (d : iodI32Z.In) : Tr iodI32Z.Res := .ite (decide (d.2.1.2.2.1 ≠ 0)) (.ret (.ret ((0, ()), d.2))) .no
noncomputable abbrev csdI32Z : List (Nat × Hc) := []
noncomputable def hddI32Z : Hd := hdT csdI32Z
noncomputable def lpdI32Z : Lp := lpT []

noncomputable def bodydI32Z (a0 : Int) (a1 : Int) : Option iodI32Z.Res := bif a1 != 0 then some (Out.ret ((0, ()), ((), a0, a1, ()), ())) else none
theorem rundI32Z (a0 : Int) (a1 : Int) : Io.run tt hddI32Z dr lpdI32Z iodI32Z Go.Proofs.Tryz.f64 (((), ()), ((), a0, a1, ()), ()) = bodydI32Z a0 a1 := by kernel_rfl
theorem okdI32Z : HcOk prog 64 (ioHd iodI32Z FdI32Z) := by
  refine fn_sound (n := 400) hm (cs := csdI32Z) HcsOk.nil (lp := lpdI32Z) (fn := Go.Proofs.Tryz.f64) (by kernel_rfl) (by kernel_rfl) (by kernel_rfl) iodI32Z (.done (by kernel_rfl)) FdI32Z ?_
  rintro ⟨⟨⟨⟩, ⟨⟩⟩, ⟨⟨⟩, (v : Int), (e : Int), ⟨⟩⟩, ⟨⟩⟩ out hw ho
  obtain ⟨hg, ho⟩ := Tr.guard ho
  have hg : e ≠ 0 := of_decide_eq_true hg
  cases ho
  refine (rundI32Z v e).trans ?_
  unfold bodydI32Z
  exact bif_true (by simpa using hg) _ _
/-! ### (*leat/wire.Dec).take -/
noncomputable abbrev iodTakeZ : Io := ⟨[.ptr 0 0, dI], oDecZ, [], [dO], none⟩
noncomputable def FdTakeZ (d : iodTakeZ.In) : Tr iodTakeZ.Res := .ite (decide (d.2.1.2.2.1 ≠ 0)) (.ret (.ret ((([] : List Int), ()), d.2))) .no
noncomputable abbrev csdTakeZ : List (Nat × Hc) := []
noncomputable def hddTakeZ : Hd := hdT csdTakeZ
noncomputable def lpdTakeZ : Lp := lpT []

noncomputable def bodydTakeZ (a0 : Int) (a1 : Int) (a2 : Int) : Option iodTakeZ.Res := bif a2 == 0 then bif decide (a0 < 0) then some (Out.ret (([], ()), ((), a1, 5, ()), ())) else bif a2 != 0 then some (Out.ret (([], ()), ((), a1, a2, ()), ())) else none else bif a2 != 0 then some (Out.ret (([], ()), ((), a1, a2, ()), ())) else none
theorem rundTakeZ (a0 : Int) (a1 : Int) (a2 : Int) : Io.run tt hddTakeZ dr lpdTakeZ iodTakeZ Go.Proofs.Tryz.f114 (((), a0, ()), ((), a1, a2, ()), ()) = bodydTakeZ a0 a1 a2 := by kernel_rfl
theorem okdTakeZ : HcOk prog 114 (ioHd iodTakeZ FdTakeZ) := by
  refine fn_sound (n := 400) hm (cs := csdTakeZ) HcsOk.nil (lp := lpdTakeZ) (fn := Go.Proofs.Tryz.f114) (by kernel_rfl) (by kernel_rfl) (by kernel_rfl) iodTakeZ (.done (by kernel_rfl)) FdTakeZ ?_
  rintro ⟨⟨⟨⟩, (n : Int), ⟨⟩⟩, ⟨⟨⟩, (v : Int), (e : Int), ⟨⟩⟩, ⟨⟩⟩ out hw ho
  obtain ⟨hg, ho⟩ := Tr.guard ho
  have hg : e ≠ 0 := of_decide_eq_true hg
  cases ho
  refine (rundTakeZ n v e).trans ?_
  unfold bodydTakeZ
  refine (bif_false (by simpa using hg) _ _).trans ?_
  exact bif_true (by simpa using hg) _ _

/-! ### (*leat/wire.Dec).text -/
noncomputable abbrev iodText : Io := ⟨[.ptr 0 0, dI], oDec, [], [.dat .str false false], none⟩
noncomputable def FdText (d : iodText.In) : Tr iodText.Res := .ite (decOk d.2) (.ret (.ret (((spDText d.2.2.1.1 d.1.2.1 (decSt d.2)).1, ()), decOut d.2.1.2.1 d.2.2.1.1 (spDText d.2.2.1.1 d.1.2.1 (decSt d.2)).2))) .no
noncomputable abbrev csdText : List (Nat × Hc) := [(114, orHd deadB (ioHd iodTakeZ FdTakeZ) (ioHd iodTake FdTake)), (104, ioHd iopUtf FpUtf)]
noncomputable def hddText : Hd := hdT csdText
noncomputable def lpdText : Lp := lpT []

noncomputable def bodydText (a0 : Int) (a1 : Int) (a2 : Int) (a3 : List Int) (a4 : Int) : Option iodText.Res := bif decide (255 < a0) then bif spDok a3 a4 then some (Out.ret (([], ()), ((), a1, 4, ()), (a3, a4, ()), ())) else none else bif spDok a3 a4 then bif !(spUtf (spDTake a3 a0 (a2, a4)).fst).snd then some (Out.ret ((List.map (fun (c : UInt8) => (↑c.toNat : Int)) [], ()), ((), a1, 6, ()), (a3, (spDTake a3 a0 (a2, a4)).snd.snd, ()), ())) else some (Out.ret (((spDTake a3 a0 (a2, a4)).fst, ()), ((), a1, (spDTake a3 a0 (a2, a4)).snd.fst, ()), (a3, (spDTake a3 a0 (a2, a4)).snd.snd, ()), ())) else none
theorem rundText (a0 : Int) (a1 : Int) (a2 : Int) (a3 : List Int) (a4 : Int) : Io.run tt hddText dr lpdText iodText Go.Proofs.Tryz.f109 (((), a0, ()), ((), a1, a2, ()), (a3, a4, ()), ()) = bodydText a0 a1 a2 a3 a4 := by kernel_rfl
theorem okdText : HcOk prog 109 (ioHd iodText FdText) := by
  refine fn_sound (n := 400) hm (cs := csdText) (.cons (or_sound okdTakeZ okdTake) (.cons okpUtf .nil)) (lp := lpdText) (fn := Go.Proofs.Tryz.f109) (by kernel_rfl) (by kernel_rfl) (by kernel_rfl) iodText (.done (by kernel_rfl)) FdText ?_
  rintro ⟨⟨⟨⟩, (n : Int), ⟨⟩⟩, ⟨⟨⟩, (v : Int), (e : Int), ⟨⟩⟩, ⟨(b : List Int), (p : Int), ⟨⟩⟩, ⟨⟩⟩ out hw ho
  obtain ⟨hg, ho⟩ := Tr.guard ho
  have hg : spDok b p = true := hg
  cases ho
  refine (rundText n v e b p).trans ?_
  unfold bodydText
  show _ = some (Out.ret (((spDText b n (e, p)).1, ()), decOut v b (spDText b n (e, p)).2))
  unfold spDText spDLong
  by_cases h : 255 < n
  · rw [if_pos h]
    refine (bif_true (by simpa using h) _ _).trans ?_
    refine (bif_true hg _ _).trans ?_
    have e1 : spDTake b n (4, p) = ([], (4, p)) := rfl
    rw [e1, if_pos (by rfl)]
  · rw [if_neg h]
    refine (bif_false (by simpa using h) _ _).trans ?_
    refine (bif_true hg _ _).trans ?_
    cases hu : (spUtf (spDTake b n (e, p)).1).2
    · rw [if_neg (by simp)]
      rfl
    · rw [if_pos rfl]
      rfl

/-! ### (*leat/wire.Dec).text -/
noncomputable abbrev iodTextZ : Io := ⟨[.ptr 0 0, dI], oDecZ, [], [.dat .str false false], none⟩
noncomputable def FdTextZ (d : iodTextZ.In) : Tr iodTextZ.Res := .ite (decide (d.2.1.2.2.1 ≠ 0) && decide (d.1.2.1 ≤ 255)) (.ret (.ret ((([] : List Int), ()), d.2))) .no
noncomputable abbrev csdTextZ : List (Nat × Hc) := [(114, orHd deadB (ioHd iodTakeZ FdTakeZ) (ioHd iodTake FdTake)), (104, ioHd iopUtf FpUtf)]
noncomputable def hddTextZ : Hd := hdT csdTextZ
noncomputable def lpdTextZ : Lp := lpT []

noncomputable def bodydTextZ (a0 : Int) (a1 : Int) (a2 : Int) : Option iodTextZ.Res := bif decide (255 < a0) then some (Out.ret (([], ()), ((), a1, 4, ()), ())) else bif decide (a2 ≠ 0) then some (Out.ret (([], ()), ((), a1, a2, ()), ())) else none
theorem rundTextZ (a0 : Int) (a1 : Int) (a2 : Int) : Io.run tt hddTextZ dr lpdTextZ iodTextZ Go.Proofs.Tryz.f109 (((), a0, ()), ((), a1, a2, ()), ()) = bodydTextZ a0 a1 a2 := by kernel_rfl
theorem okdTextZ : HcOk prog 109 (ioHd iodTextZ FdTextZ) := by
  refine fn_sound (n := 400) hm (cs := csdTextZ) (.cons (or_sound okdTakeZ okdTake) (.cons okpUtf .nil)) (lp := lpdTextZ) (fn := Go.Proofs.Tryz.f109) (by kernel_rfl) (by kernel_rfl) (by kernel_rfl) iodTextZ (.done (by kernel_rfl)) FdTextZ ?_
  rintro ⟨⟨⟨⟩, (n : Int), ⟨⟩⟩, ⟨⟨⟩, (v : Int), (e : Int), ⟨⟩⟩, ⟨⟩⟩ out hw ho
  obtain ⟨hg, ho⟩ := Tr.guard ho
  obtain ⟨hg, h2⟩ := Bool.and_eq_true_iff.1 hg
  have hg : e ≠ 0 := of_decide_eq_true hg
  have h2 : n ≤ 255 := of_decide_eq_true h2
  cases ho
  refine (rundTextZ n v e).trans ?_
  unfold bodydTextZ
  refine (bif_false (by simp; omega) _ _).trans ?_
  exact bif_true (by simpa using hg) _ _

/-! ### (*leat/wire.Dec).Str -/
noncomputable def spDStr (b : List Int) (s : DeS) : List Int × DeS := spDText b (spDn .i16 2 b s).1 (spDn .i16 2 b s).2
noncomputable abbrev iodStr : Io := ⟨[.ptr 0 0], oDec, [], [.dat .str false false], none⟩
noncomputable def FdStr (d : iodStr.In) : Tr iodStr.Res := .ite (decOk d.2) (.ret (.ret (((spDStr d.2.2.1.1 (decSt d.2)).1, ()), decOut d.2.1.2.1 d.2.2.1.1 (spDStr d.2.2.1.1 (decSt d.2)).2))) .no
noncomputable abbrev csdStr : List (Nat × Hc) := [(63, orHd deadB (ioHd iodI16Z FdI16Z) (ioHd iodI16 FdI16)), (109, orHd deadB (ioHd iodTextZ FdTextZ) (ioHd iodText FdText))]
noncomputable def hddStr : Hd := hdT csdStr
noncomputable def lpdStr : Lp := lpT []

noncomputable def bodydStr (a0 : Int) (a1 : Int) (a2 : List Int) (a3 : Int) : Option iodStr.Res := bif spDok a2 a3 then bif spDok a2 (spDn IntKind.i16 2 a2 (a1, a3)).snd.snd then some (Out.ret (((spDText a2 (IntKind.i64.wrap (spDn IntKind.i16 2 a2 (a1, a3)).fst) (spDn IntKind.i16 2 a2 (a1, a3)).snd).fst, ()), ((), a0, (spDText a2 (IntKind.i64.wrap (spDn IntKind.i16 2 a2 (a1, a3)).fst) (spDn IntKind.i16 2 a2 (a1, a3)).snd).snd.fst, ()), (a2, (spDText a2 (IntKind.i64.wrap (spDn IntKind.i16 2 a2 (a1, a3)).fst) (spDn IntKind.i16 2 a2 (a1, a3)).snd).snd.snd, ()), ())) else none else none
theorem rundStr (a0 : Int) (a1 : Int) (a2 : List Int) (a3 : Int) : Io.run tt hddStr dr lpdStr iodStr Go.Proofs.Tryz.f67 (((), ()), ((), a0, a1, ()), (a2, a3, ()), ()) = bodydStr a0 a1 a2 a3 := by kernel_rfl
theorem okdStr : HcOk prog 67 (ioHd iodStr FdStr) := by
  refine fn_sound (n := 400) hm (cs := csdStr) (.cons (or_sound okdI16Z okdI16) (.cons (or_sound okdTextZ okdText) .nil)) (lp := lpdStr) (fn := Go.Proofs.Tryz.f67) (by kernel_rfl) (by kernel_rfl) (by kernel_rfl) iodStr (.done (by kernel_rfl)) FdStr ?_
  rintro ⟨⟨⟨⟩, ⟨⟩⟩, ⟨⟨⟩, (v : Int), (e : Int), ⟨⟩⟩, ⟨(b : List Int), (p : Int), ⟨⟩⟩, ⟨⟩⟩ out hw ho
  obtain ⟨hg, ho⟩ := Tr.guard ho
  have hg : spDok b p = true := hg
  cases ho
  refine (rundStr v e b p).trans ?_
  unfold bodydStr
  show _ = some (Out.ret (((spDStr b (e, p)).1, ()), decOut v b (spDStr b (e, p)).2))
  rw [spDn_i16]
  refine (bif_true hg _ _).trans ?_
  exact bif_true (spDn_ok .i16 2 (s := (e, p)) hg) _ _

/-! ### (*leat/wire.Dec).Name -/
noncomputable def spDName (b : List Int) (s : DeS) : tNameT.den × DeS := if (spDn .i16 2 b s).1 = -1 then ((true, (([] : List Int), ())), (spDn .i16 2 b s).2) else ((false, ((spDStr b s).1, ())), (spDStr b s).2)
noncomputable abbrev iodName : Io := ⟨[.ptr 0 0], oDec, [], [dNameT], none⟩
noncomputable def FdName (d : iodName.In) : Tr iodName.Res := .ite (decOk d.2) (.ret (.ret (((spDName d.2.2.1.1 (decSt d.2)).1, ()), decOut d.2.1.2.1 d.2.2.1.1 (spDName d.2.2.1.1 (decSt d.2)).2))) .no
noncomputable abbrev csdName : List (Nat × Hc) := [(63, orHd deadB (ioHd iodI16Z FdI16Z) (ioHd iodI16 FdI16)), (109, orHd deadB (ioHd iodTextZ FdTextZ) (ioHd iodText FdText))]
noncomputable def hddName : Hd := hdT csdName
noncomputable def lpdName : Lp := lpT []

noncomputable def bodydName (a0 : Int) (a1 : Int) (a2 : List Int) (a3 : Int) : Option iodName.Res := bif spDok a2 a3 then bif (spDn IntKind.i16 2 a2 (a1, a3)).fst == -1 then some (Out.ret (((true, List.map (fun (c : UInt8) => (↑c.toNat : Int)) [], ()), ()), ((), a0, (spDn IntKind.i16 2 a2 (a1, a3)).snd.fst, ()), (a2, (spDn IntKind.i16 2 a2 (a1, a3)).snd.snd, ()), ())) else bif spDok a2 (spDn IntKind.i16 2 a2 (a1, a3)).snd.snd then some (Out.ret (((false, (spDText a2 (IntKind.i64.wrap (spDn IntKind.i16 2 a2 (a1, a3)).fst) (spDn IntKind.i16 2 a2 (a1, a3)).snd).fst, ()), ()), ((), a0, (spDText a2 (IntKind.i64.wrap (spDn IntKind.i16 2 a2 (a1, a3)).fst) (spDn IntKind.i16 2 a2 (a1, a3)).snd).snd.fst, ()), (a2, (spDText a2 (IntKind.i64.wrap (spDn IntKind.i16 2 a2 (a1, a3)).fst) (spDn IntKind.i16 2 a2 (a1, a3)).snd).snd.snd, ()), ())) else none else none
theorem rundName (a0 : Int) (a1 : Int) (a2 : List Int) (a3 : Int) : Io.run tt hddName dr lpdName iodName Go.Proofs.Tryz.f62 (((), ()), ((), a0, a1, ()), (a2, a3, ()), ()) = bodydName a0 a1 a2 a3 := by kernel_rfl
theorem okdName : HcOk prog 62 (ioHd iodName FdName) := by
  refine fn_sound (n := 400) hm (cs := csdName) (.cons (or_sound okdI16Z okdI16) (.cons (or_sound okdTextZ okdText) .nil)) (lp := lpdName) (fn := Go.Proofs.Tryz.f62) (by kernel_rfl) (by kernel_rfl) (by kernel_rfl) iodName (.done (by kernel_rfl)) FdName ?_
  rintro ⟨⟨⟨⟩, ⟨⟩⟩, ⟨⟨⟩, (v : Int), (e : Int), ⟨⟩⟩, ⟨(b : List Int), (p : Int), ⟨⟩⟩, ⟨⟩⟩ out hw ho
  obtain ⟨hg, ho⟩ := Tr.guard ho
  have hg : spDok b p = true := hg
  cases ho
  refine (rundName v e b p).trans ?_
  unfold bodydName
  show _ = some (Out.ret (((spDName b (e, p)).1, ()), decOut v b (spDName b (e, p)).2))
  rw [spDn_i16]
  refine (bif_true hg _ _).trans ?_
  unfold spDName spDStr
  by_cases h : (spDn .i16 2 b (e, p)).1 = -1
  · rw [if_pos h]
    exact bif_true (by simpa using h) _ _
  · rw [if_neg h]
    refine (bif_false (by simpa using h) _ _).trans ?_
    exact bif_true (spDn_ok .i16 2 (s := (e, p)) hg) _ _

/-! ### (*leat/wire.Dec).Blob -/
noncomputable def spDBlob (b : List Int) (s : DeS) : tBlobT.den × DeS := if (spDn .i32 4 b s).1 = -1 then ((true, (([] : List Int), ())), (spDn .i32 4 b s).2) else ((false, ((spDTake b (spDn .i32 4 b s).1 (spDn .i32 4 b s).2).1, ())), (spDTake b (spDn .i32 4 b s).1 (spDn .i32 4 b s).2).2)
noncomputable abbrev iodBlob : Io := ⟨[.ptr 0 0], oDec, [], [dBlobT], none⟩
noncomputable def FdBlob (d : iodBlob.In) : Tr iodBlob.Res := .ite (decOk d.2) (.ret (.ret (((spDBlob d.2.2.1.1 (decSt d.2)).1, ()), decOut d.2.1.2.1 d.2.2.1.1 (spDBlob d.2.2.1.1 (decSt d.2)).2))) .no
noncomputable abbrev csdBlob : List (Nat × Hc) := [(64, orHd deadB (ioHd iodI32Z FdI32Z) (ioHd iodI32 FdI32)), (114, orHd deadB (ioHd iodTakeZ FdTakeZ) (ioHd iodTake FdTake))]
noncomputable def hddBlob : Hd := hdT csdBlob
noncomputable def lpdBlob : Lp := lpT []

noncomputable def bodydBlob (a0 : Int) (a1 : Int) (a2 : List Int) (a3 : Int) : Option iodBlob.Res := bif spDok a2 a3 then bif (spDn IntKind.i32 4 a2 (a1, a3)).fst == -1 then some (Out.ret (((true, [], ()), ()), ((), a0, (spDn IntKind.i32 4 a2 (a1, a3)).snd.fst, ()), (a2, (spDn IntKind.i32 4 a2 (a1, a3)).snd.snd, ()), ())) else bif spDok a2 (spDn IntKind.i32 4 a2 (a1, a3)).snd.snd then some (Out.ret (((false, (spDTake a2 (IntKind.i64.wrap (spDn IntKind.i32 4 a2 (a1, a3)).fst) (spDn IntKind.i32 4 a2 (a1, a3)).snd).fst, ()), ()), ((), a0, (spDTake a2 (IntKind.i64.wrap (spDn IntKind.i32 4 a2 (a1, a3)).fst) (spDn IntKind.i32 4 a2 (a1, a3)).snd).snd.fst, ()), (a2, (spDTake a2 (IntKind.i64.wrap (spDn IntKind.i32 4 a2 (a1, a3)).fst) (spDn IntKind.i32 4 a2 (a1, a3)).snd).snd.snd, ()), ())) else none else none
theorem rundBlob (a0 : Int) (a1 : Int) (a2 : List Int) (a3 : Int) : Io.run tt hddBlob dr lpdBlob iodBlob Go.Proofs.Tryz.f70 (((), ()), ((), a0, a1, ()), (a2, a3, ()), ()) = bodydBlob a0 a1 a2 a3 := by kernel_rfl
theorem okdBlob : HcOk prog 70 (ioHd iodBlob FdBlob) := by
  refine fn_sound (n := 400) hm (cs := csdBlob) (.cons (or_sound okdI32Z okdI32) (.cons (or_sound okdTakeZ okdTake) .nil)) (lp := lpdBlob) (fn := Go.Proofs.Tryz.f70) (by kernel_rfl) (by kernel_rfl) (by kernel_rfl) iodBlob (.done (by kernel_rfl)) FdBlob ?_
  rintro ⟨⟨⟨⟩, ⟨⟩⟩, ⟨⟨⟩, (v : Int), (e : Int), ⟨⟩⟩, ⟨(b : List Int), (p : Int), ⟨⟩⟩, ⟨⟩⟩ out hw ho
  obtain ⟨hg, ho⟩ := Tr.guard ho
  have hg : spDok b p = true := hg
  cases ho
  refine (rundBlob v e b p).trans ?_
  unfold bodydBlob
  show _ = some (Out.ret (((spDBlob b (e, p)).1, ()), decOut v b (spDBlob b (e, p)).2))
  rw [spDn_i32]
  refine (bif_true hg _ _).trans ?_
  unfold spDBlob
  by_cases h : (spDn .i32 4 b (e, p)).1 = -1
  · rw [if_pos h]
    exact bif_true (by simpa using h) _ _
  · rw [if_neg h]
    refine (bif_false (by simpa using h) _ _).trans ?_
    exact bif_true (spDn_ok .i32 4 (s := (e, p)) hg) _ _

/-! ### (*leat/wire.Dec).Has -/
noncomputable def spDHas (v lo hi e : Int) : Bool := if e = 0 ∧ lo ≤ v ∧ v ≤ hi then true else false
noncomputable abbrev iodHas : Io := ⟨[.ptr 0 0, dI, dI], oDec, [], [dB], none⟩
noncomputable def FdHas (d : iodHas.In) : Tr iodHas.Res := .ret (.ret ((spDHas d.2.1.2.1 d.1.2.1 d.1.2.2.1 d.2.1.2.2.1, ()), d.2))
noncomputable abbrev csdHas : List (Nat × Hc) := []
noncomputable def hddHas : Hd := hdT csdHas
noncomputable def lpdHas : Lp := lpT []

noncomputable def bodydHas (a0 : Int) (a1 : Int) (a2 : Int) (a3 : Int) (a4 : List Int) (a5 : Int) : Option iodHas.Res := bif a3 == 0 then bif decide (a0 ≤ a2) then some (Out.ret ((decide (a2 ≤ a1), ()), ((), a2, a3, ()), (a4, a5, ()), ())) else some (Out.ret ((false, ()), ((), a2, a3, ()), (a4, a5, ()), ())) else some (Out.ret ((false, ()), ((), a2, a3, ()), (a4, a5, ()), ()))
theorem rundHas (a0 : Int) (a1 : Int) (a2 : Int) (a3 : Int) (a4 : List Int) (a5 : Int) : Io.run tt hddHas dr lpdHas iodHas Go.Proofs.Tryz.f61 (((), a0, a1, ()), ((), a2, a3, ()), (a4, a5, ()), ()) = bodydHas a0 a1 a2 a3 a4 a5 := by kernel_rfl
theorem okdHas : HcOk prog 61 (ioHd iodHas FdHas) := by
  refine fn_sound (n := 400) hm (cs := csdHas) HcsOk.nil (lp := lpdHas) (fn := Go.Proofs.Tryz.f61) (by kernel_rfl) (by kernel_rfl) (by kernel_rfl) iodHas (.done (by kernel_rfl)) FdHas ?_
  rintro ⟨⟨⟨⟩, (lo : Int), (hi : Int), ⟨⟩⟩, ⟨⟨⟩, (v : Int), (e : Int), ⟨⟩⟩, ⟨(b : List Int), (p : Int), ⟨⟩⟩, ⟨⟩⟩ out hw ho
  cases ho
  refine (rundHas lo hi v e b p).trans ?_
  unfold bodydHas
  show _ = some (Out.ret ((spDHas v lo hi e, ()), decOut v b (e, p)))
  have hs : spDHas v lo hi e = ((e == 0) && (decide (lo ≤ v) && decide (v ≤ hi))) := by
    unfold spDHas
    by_cases h : e = 0 ∧ lo ≤ v ∧ v ≤ hi
    · rw [if_pos h]; simp [h]
    · rw [if_neg h]
      rw [eq_comm, Bool.eq_false_iff]
      intro h'
      simp only [Bool.and_eq_true, beq_iff_eq, decide_eq_true_eq] at h'
      exact h h'
  rw [hs]
  cases e == 0
  · rfl
  · cases decide (lo ≤ v) <;> rfl

/-! ### (*leat/wire.Dec).Has -/
noncomputable abbrev iodHasZ : Io := ⟨[.ptr 0 0, dI, dI], oDecZ, [], [dB], none⟩
noncomputable def FdHasZ (d : iodHasZ.In) : Tr iodHasZ.Res := .ite (decide (d.2.1.2.2.1 ≠ 0)) (.ret (.ret ((false, ()), d.2))) .no
noncomputable abbrev csdHasZ : List (Nat × Hc) := []
noncomputable def hddHasZ : Hd := hdT csdHasZ
noncomputable def lpdHasZ : Lp := lpT []

noncomputable def bodydHasZ (a0 : Int) (a1 : Int) (a2 : Int) (a3 : Int) : Option iodHasZ.Res := bif a3 == 0 then bif decide (a0 ≤ a2) then some (Out.ret ((decide (a2 ≤ a1), ()), ((), a2, a3, ()), ())) else some (Out.ret ((false, ()), ((), a2, a3, ()), ())) else some (Out.ret ((false, ()), ((), a2, a3, ()), ()))
theorem rundHasZ (a0 : Int) (a1 : Int) (a2 : Int) (a3 : Int) : Io.run tt hddHasZ dr lpdHasZ iodHasZ Go.Proofs.Tryz.f61 (((), a0, a1, ()), ((), a2, a3, ()), ()) = bodydHasZ a0 a1 a2 a3 := by kernel_rfl
theorem okdHasZ : HcOk prog 61 (ioHd iodHasZ FdHasZ) := by
  refine fn_sound (n := 400) hm (cs := csdHasZ) HcsOk.nil (lp := lpdHasZ) (fn := Go.Proofs.Tryz.f61) (by kernel_rfl) (by kernel_rfl) (by kernel_rfl) iodHasZ (.done (by kernel_rfl)) FdHasZ ?_
  rintro ⟨⟨⟨⟩, (lo : Int), (hi : Int), ⟨⟩⟩, ⟨⟨⟩, (v : Int), (e : Int), ⟨⟩⟩, ⟨⟩⟩ out hw ho
  obtain ⟨hg, ho⟩ := Tr.guard ho
  have hg : e ≠ 0 := of_decide_eq_true hg
  cases ho
  refine (rundHasZ lo hi v e).trans ?_
  unfold bodydHasZ
  exact bif_false (by simpa using hg) _ _

/-! ### (*leat/wire.Dec).End -/
noncomputable def spDEnd (b : List Int) (s : DeS) : Int := if s.1 = 0 then spEnd b s.2 else s.1
noncomputable abbrev iodEnd : Io := ⟨[.ptr 0 0], oDec, [], [dI], none⟩
noncomputable def FdEnd (d : iodEnd.In) : Tr iodEnd.Res := .ret (.ret ((spDEnd d.2.2.1.1 (decSt d.2), ()), (((), (d.2.1.2.1, (spDEnd d.2.2.1.1 (decSt d.2), ()))), d.2.2)))
noncomputable abbrev csdEnd : List (Nat × Hc) := [(83, ioHd iordEnd FrdEnd)]
noncomputable def hddEnd : Hd := hdT csdEnd
noncomputable def lpdEnd : Lp := lpT []

noncomputable def bodydEnd (a0 : Int) (a1 : Int) (a2 : List Int) (a3 : Int) : Option iodEnd.Res := bif a1 == 0 then some (Out.ret ((spEnd a2 a3, ()), ((), a0, spEnd a2 a3, ()), (a2, a3, ()), ())) else some (Out.ret ((a1, ()), ((), a0, a1, ()), (a2, a3, ()), ()))
theorem rundEnd (a0 : Int) (a1 : Int) (a2 : List Int) (a3 : Int) : Io.run tt hddEnd dr lpdEnd iodEnd Go.Proofs.Tryz.f71 (((), ()), ((), a0, a1, ()), (a2, a3, ()), ()) = bodydEnd a0 a1 a2 a3 := by kernel_rfl
theorem okdEnd : HcOk prog 71 (ioHd iodEnd FdEnd) := by
  refine fn_sound (n := 400) hm (cs := csdEnd) (.cons okrdEnd .nil) (lp := lpdEnd) (fn := Go.Proofs.Tryz.f71) (by kernel_rfl) (by kernel_rfl) (by kernel_rfl) iodEnd (.done (by kernel_rfl)) FdEnd ?_
  rintro ⟨⟨⟨⟩, ⟨⟩⟩, ⟨⟨⟩, (v : Int), (e : Int), ⟨⟩⟩, ⟨(b : List Int), (p : Int), ⟨⟩⟩, ⟨⟩⟩ out hw ho
  cases ho
  refine (rundEnd v e b p).trans ?_
  unfold bodydEnd
  show _ = some (Out.ret ((spDEnd b (e, p), ()), decOut v b (spDEnd b (e, p), p)))
  unfold spDEnd
  by_cases h : e = 0
  · rw [if_pos h]
    exact bif_true (by simpa using h) _ _
  · rw [if_neg h]
    exact bif_false (by simpa using h) _ _

/-! ### (*leat/wire.Dec).End -/
noncomputable abbrev iodEndZ : Io := ⟨[.ptr 0 0], oDecZ, [], [dI], none⟩
noncomputable def FdEndZ (d : iodEndZ.In) : Tr iodEndZ.Res := .ite (decide (d.2.1.2.2.1 ≠ 0)) (.ret (.ret ((d.2.1.2.2.1, ()), d.2))) .no
noncomputable abbrev csdEndZ : List (Nat × Hc) := [(83, ioHd iordEnd FrdEnd)]
noncomputable def hddEndZ : Hd := hdT csdEndZ
noncomputable def lpdEndZ : Lp := lpT []

noncomputable def bodydEndZ (a0 : Int) (a1 : Int) : Option iodEndZ.Res := bif a1 == 0 then none else some (Out.ret ((a1, ()), ((), a0, a1, ()), ()))
theorem rundEndZ (a0 : Int) (a1 : Int) : Io.run tt hddEndZ dr lpdEndZ iodEndZ Go.Proofs.Tryz.f71 (((), ()), ((), a0, a1, ()), ()) = bodydEndZ a0 a1 := by kernel_rfl
theorem okdEndZ : HcOk prog 71 (ioHd iodEndZ FdEndZ) := by
  refine fn_sound (n := 400) hm (cs := csdEndZ) (.cons okrdEnd .nil) (lp := lpdEndZ) (fn := Go.Proofs.Tryz.f71) (by kernel_rfl) (by kernel_rfl) (by kernel_rfl) iodEndZ (.done (by kernel_rfl)) FdEndZ ?_
  rintro ⟨⟨⟨⟩, ⟨⟩⟩, ⟨⟨⟩, (v : Int), (e : Int), ⟨⟩⟩, ⟨⟩⟩ out hw ho
  obtain ⟨hg, ho⟩ := Tr.guard ho
  have hg : e ≠ 0 := of_decide_eq_true hg
  cases ho
  refine (rundEndZ v e).trans ?_
  unfold bodydEndZ
  exact bif_false (by simpa using hg) _ _

/-! ### leat/wire.NewDec -/
noncomputable abbrev iodNew : Io := ⟨[dI, dL], [], oDec, [.ptr 0 0], none⟩
noncomputable def FdNew (d : iodNew.In) : Tr iodNew.Res := .ite (decide (0 ≤ d.1.1) && (decide (d.1.1 ≤ 3) && decide ((d.1.2.1.length : Int) ≤ 130048))) (.ret (.ret (((), ()), decOut d.1.1 d.1.2.1 (0, 0)))) .no
noncomputable abbrev csdNew : List (Nat × Hc) := [(81, ioHd iordNew FrdNew)]
noncomputable def hddNew : Hd := hdT csdNew
noncomputable def lpdNew : Lp := lpT []

noncomputable def bodydNew (a0 : Int) (a1 : List Int) : Option iodNew.Res := bif decide (a0 < 0) then none else bif decide (3 < a0) then none else bif decide (130048 < (↑a1.length : Int)) then none else bif decide (a1.length ≤ 4294967296) then some (Out.ret (((), ()), ((), a0, 0, ()), (a1, 0, ()), ())) else none
theorem rundNew (a0 : Int) (a1 : List Int) : Io.run tt hddNew dr lpdNew iodNew Go.Proofs.Tryz.f60 ((a0, a1, ()), ()) = bodydNew a0 a1 := by kernel_rfl
theorem okdNew : HcOk prog 60 (ioHd iodNew FdNew) := by
  refine fn_sound (n := 400) hm (cs := csdNew) (.cons okrdNew .nil) (lp := lpdNew) (fn := Go.Proofs.Tryz.f60) (by kernel_rfl) (by kernel_rfl) (by kernel_rfl) iodNew (.done (by kernel_rfl)) FdNew ?_
  rintro ⟨⟨(v : Int), (b : List Int), ⟨⟩⟩, ⟨⟩⟩ out hw ho
  obtain ⟨hg, ho⟩ := Tr.guard ho
  simp only [Bool.and_eq_true, decide_eq_true_eq] at hg
  obtain ⟨h1, h2, h3⟩ := hg
  have h1 : (0 : Int) ≤ v := h1
  have h2 : v ≤ (3 : Int) := h2
  have h3 : (b.length : Int) ≤ 130048 := h3
  cases ho
  refine (rundNew v b).trans ?_
  unfold bodydNew
  refine (bif_false (by simp; omega) _ _).trans ?_
  refine (bif_false (by simp; omega) _ _).trans ?_
  refine (bif_false (by simp; omega) _ _).trans ?_
  exact bif_true (by simp; omega) _ _

/-! ### leat/wire.NewDec -/
noncomputable def spNewD (v : Int) : Int := if v < 0 ∨ 3 < v then 8 else 4
noncomputable abbrev iodNewZ : Io := ⟨[dI, dL], [], oDecZ, [.ptr 0 0], none⟩
noncomputable def FdNewZ (d : iodNewZ.In) : Tr iodNewZ.Res := .ite (decide (0 ≤ d.1.1) && (decide (d.1.1 ≤ 3) && decide ((d.1.2.1.length : Int) ≤ 130048))) .no (.ret (.ret (((), ()), (((), (d.1.1, (spNewD d.1.1, ()))), ()))))
noncomputable abbrev csdNewZ : List (Nat × Hc) := [(81, ioHd iordNew FrdNew)]
noncomputable def hddNewZ : Hd := hdT csdNewZ
noncomputable def lpdNewZ : Lp := lpT []

noncomputable def bodydNewZ (a0 : Int) (a1 : List Int) : Option iodNewZ.Res := bif decide (a0 < 0) then some (Out.ret (((), ()), ((), a0, 8, ()), ())) else bif decide (3 < a0) then some (Out.ret (((), ()), ((), a0, 8, ()), ())) else bif decide (130048 < (↑a1.length : Int)) then some (Out.ret (((), ()), ((), a0, 4, ()), ())) else bif decide (a1.length ≤ 4294967296) then none else none
theorem rundNewZ (a0 : Int) (a1 : List Int) : Io.run tt hddNewZ dr lpdNewZ iodNewZ Go.Proofs.Tryz.f60 ((a0, a1, ()), ()) = bodydNewZ a0 a1 := by kernel_rfl
theorem okdNewZ : HcOk prog 60 (ioHd iodNewZ FdNewZ) := by
  refine fn_sound (n := 400) hm (cs := csdNewZ) (.cons okrdNew .nil) (lp := lpdNewZ) (fn := Go.Proofs.Tryz.f60) (by kernel_rfl) (by kernel_rfl) (by kernel_rfl) iodNewZ (.done (by kernel_rfl)) FdNewZ ?_
  rintro ⟨⟨(v : Int), (b : List Int), ⟨⟩⟩, ⟨⟩⟩ out hw ho
  have hg : (decide (0 ≤ v) && (decide (v ≤ 3) && decide ((b.length : Int) ≤ 130048))) = false := by
    cases hc : (decide (0 ≤ v) && (decide (v ≤ 3) && decide ((b.length : Int) ≤ 130048)))
    · rfl
    · have e1 : FdNewZ ((v, (b, ())), ()) = .ite true .no (.ret (.ret (((), ()), (((), (v, (spNewD v, ()))), ())))) := congrArg (fun c => Tr.ite c _ _) hc
      rw [e1] at ho
      cases ho
  have e1 : FdNewZ ((v, (b, ())), ()) = .ite false .no (.ret (.ret (((), ()), (((), (v, (spNewD v, ()))), ())))) := congrArg (fun c => Tr.ite c _ _) hg
  rw [e1] at ho
  cases ho
  refine (rundNewZ v b).trans ?_
  unfold bodydNewZ spNewD
  simp only [Bool.and_eq_false_iff, decide_eq_false_iff_not] at hg
  by_cases h1 : v < 0
  · rw [if_pos (.inl h1)]
    exact bif_true (by simpa using h1) _ _
  · refine (bif_false (by simpa using h1) _ _).trans ?_
    by_cases h2 : 3 < v
    · rw [if_pos (.inr h2)]
      exact bif_true (by simpa using h2) _ _
    · rw [if_neg (by omega)]
      refine (bif_false (by simpa using h2) _ _).trans ?_
      exact bif_true (by simp; omega) _ _
end
end Go.Proofs.YtmlgepgcofmpeaaGreat.Sym

/- produce.EncodeReq, EncodeRep: what they write. -/
namespace Go.Proofs.YtmlgepgcofmpeaaGreat.Sym
open Go
set_option linter.unusedSimpArgs false
set_option linter.unusedVariables false
noncomputable section

/-- A captured variable that points to the writer. -/
noncomputable abbrev oEnc1 : List (List Sh) := [[.ptr 1 0], [.ptr 2 0, dI, dI, dB], [dO, dI]]
noncomputable abbrev oEncC : List (List Sh) := [[.ptr 1 0, dI, dI, dB], [dO, dI], [.ptr 0 0]]
noncomputable abbrev encOut1 (v : Int) (s : EnS) : DenO oEnc1 := (((), ()), encOut v s)
noncomputable abbrev encOutC (v : Int) (s : EnS) : DenO oEncC := (((), (v, (s.1, (s.2.1, ())))), ((s.2.2, (130048, ())), (((), ()), ())))
noncomputable abbrev encStC (d : DenO oEncC) : EnS := (d.1.2.2.1, (d.1.2.2.2.1, d.2.1.1))
noncomputable abbrev encOkC (d : DenO oEncC) : Bool := decide (d.2.1.2.1 = 130048) && decide (d.2.1.1.length ≤ 130048)
/-- A list: its length, then each. -/
noncomputable def spItems {α : Type} (one : α → EnS → EnS) (xs : List α) (s : EnS) : EnS := if 16 < (xs.length : Int) then spFail 9 s else xs.foldl (fun s x => one x s) (spPutE xs.length 4 s)

noncomputable abbrev tPart : Ty := .prod (.int .i32) (.prod tBlobT .unit)
noncomputable def spPartE (p : tPart.den) (s : EnS) : EnS := spBlobE p.2.1 (spPutE p.1 4 s)
noncomputable def partOk (p : tPart.den) : Bool := decide (p.2.1.2.1.length ≤ 2147483647)
noncomputable abbrev encOutB (v : Int) (s : EnS) : (Int × (Int × (Bool × Unit))) × ((List Int × (Int × Unit)) × (Unit × Unit)) := ((v, (s.1, (s.2.1, ()))), ((s.2.2, (130048, ())), ((), ())))
theorem spRawE_le {s : EnS} (p : List Int) (h : s.2.2.length ≤ 130048) : (spRawE p s).2.2.length ≤ 130048 := by
  unfold spRawE
  split
  · exact h
  · simp only [List.length_append]; omega
theorem spFail_le {s : EnS} (e : Int) (h : s.2.2.length ≤ 130048) : (spFail e s).2.2.length ≤ 130048 := by
  unfold spFail; split <;> exact h
theorem spBlobE_le {s : EnS} (n : Bool × (List Int × Unit)) (h : s.2.2.length ≤ 130048) : (spBlobE n s).2.2.length ≤ 130048 := by
  unfold spBlobE
  split
  · exact spFail_le _ h
  · split
    · exact spPutE_le _ _ h
    · exact spRawE_le _ (spPutE_le _ _ h)
theorem spStrE_le {s : EnS} (t : List Int) (h : s.2.2.length ≤ 130048) : (spStrE t s).2.2.length ≤ 130048 := by
  unfold spStrE
  split
  · exact spFail_le _ h
  · split
    · exact spFail_le _ h
    · exact spRawE_le _ (spPutE_le _ _ h)
theorem spPartE_le {s : EnS} (p : tPart.den) (h : s.2.2.length ≤ 130048) : (spPartE p s).2.2.length ≤ 130048 := spBlobE_le _ (spPutE_le _ _ h)
theorem foldl_le {α : Type} {one : α → EnS → EnS} (h1 : ∀ x s, s.2.2.length ≤ 130048 → (one x s).2.2.length ≤ 130048) : ∀ (xs : List α) (s : EnS), s.2.2.length ≤ 130048 → (xs.foldl (fun s x => one x s) s).2.2.length ≤ 130048
  | [], _, h => h
  | x :: xs, s, h => foldl_le h1 xs (one x s) (h1 x s h)
theorem spItems_le {α : Type} {one : α → EnS → EnS} (h1 : ∀ x s, s.2.2.length ≤ 130048 → (one x s).2.2.length ≤ 130048) (xs : List α) {s : EnS} (h : s.2.2.length ≤ 130048) : (spItems one xs s).2.2.length ≤ 130048 := by
  unfold spItems
  split
  · exact spFail_le _ h
  · exact foldl_le h1 xs _ (spPutE_le _ _ h)
noncomputable def spPartsOk (xs : List tPart.den) : Bool := xs.all partOk
/-! ### leat/produce.EncodeReq$1$1 -/
noncomputable abbrev ioqPart : Io := ⟨[.dat tPart true false, .ptr 0 0], oEnc1, [], [], none⟩
noncomputable def FqPart (d : ioqPart.In) : Tr ioqPart.Res := .ite (encOk d.2.2 && partOk d.1.1) (.ret (.ret ((), encOut1 d.2.2.1.2.1 (spPartE d.1.1 (encSt d.2.2))))) .no
noncomputable abbrev csqPart : List (Nat × Hc) := [(41, ioHd ioeI32 FeI32), (47, ioHd ioeBlob FeBlob)]
noncomputable def hdqPart : Hd := hdT csqPart
noncomputable def lpqPart : Lp := lpT []

noncomputable def bodyqPart (a0 : Int) (a1 : Bool) (a2 : List Int) (a3 : Int) (a4 : Int) (a5 : Bool) (a6 : List Int) (a7 : Int) : Option ioqPart.Res := bif decide (a7 = 130048) && decide (a6.length ≤ 130048) then bif decide (130048 = 130048) && decide ((spPutE a0 4 (a4, a5, a6)).snd.snd.length ≤ 130048) && decide (a2.length ≤ 2147483647) then some (Out.ret ((), ((), ()), ((), a3, (spBlobE (a1, a2, ()) (spPutE a0 4 (a4, a5, a6))).fst, (spBlobE (a1, a2, ()) (spPutE a0 4 (a4, a5, a6))).snd.fst, ()), ((spBlobE (a1, a2, ()) (spPutE a0 4 (a4, a5, a6))).snd.snd, 130048, ()), ())) else none else none
theorem runqPart (a0 : Int) (a1 : Bool) (a2 : List Int) (a3 : Int) (a4 : Int) (a5 : Bool) (a6 : List Int) (a7 : Int) : Io.run tt hdqPart dr lpqPart ioqPart Go.Proofs.Tryz.f46 (((a0, (a1, a2, ()), ()), (), ()), ((), ()), ((), a3, a4, a5, ()), (a6, a7, ()), ()) = bodyqPart a0 a1 a2 a3 a4 a5 a6 a7 := by kernel_rfl
theorem okqPart : HcOk prog 46 (ioHd ioqPart FqPart) := by
  refine fn_sound (n := 400) hm (cs := csqPart) (.cons okeI32 (.cons okeBlob .nil)) (lp := lpqPart) (fn := Go.Proofs.Tryz.f46) (by kernel_rfl) (by kernel_rfl) (by kernel_rfl) ioqPart (.done (by kernel_rfl)) FqPart ?_
  rintro ⟨⟨⟨(x : Int), ⟨(z : Bool), (t : List Int), ⟨⟩⟩, ⟨⟩⟩, ⟨⟩, ⟨⟩⟩, ⟨⟨⟩, ⟨⟩⟩, ⟨⟨⟩, (v : Int), (e : Int), (f : Bool), ⟨⟩⟩, ⟨(b : List Int), (m : Int), ⟨⟩⟩, ⟨⟩⟩ out hw ho
  obtain ⟨hg, ho⟩ := Tr.guard ho
  obtain ⟨hg, h5⟩ := Bool.and_eq_true_iff.1 hg
  obtain ⟨rfl, hb⟩ := encOk_iff (v := v) (e := e) (f := f) hg
  have h5 : decide (t.length ≤ 2147483647) = true := h5
  cases ho
  refine (runqPart x z t v e f b 130048).trans ?_
  unfold bodyqPart
  refine (bif_true (by simpa using hb) _ _).trans ?_
  refine (bif_true (by rw [h5]; simpa using spPutE_le (s := (e, f, b)) x 4 hb) _ _).trans ?_
  rfl

/-! ### leat/wire.Items[leat/api.ProdPart] -/
noncomputable abbrev ioqParts : Io := ⟨[.ptr 0 0, .dat (.sl 92 tPart) false false, .fnc 46 false [2]], oEncC, [], [], none⟩
noncomputable def FqParts (d : ioqParts.In) : Tr ioqParts.Res := .ite (encOkC d.2 && spPartsOk d.1.2.1) (.ret (.ret ((), encOutC d.2.1.2.1 (spItems spPartE d.1.2.1 (encStC d.2))))) .no
noncomputable abbrev csqParts : List (Nat × Hc) := [(100, ioHd ioeFail FeFail), (41, ioHd ioeI32 FeI32), (46, ioHd ioqPart FqPart)]
noncomputable def hdqParts : Hd := hdT csqParts
noncomputable abbrev loqParts_5 : Lo := ⟨⟨[.any, .any, .one (.fnp 46 false [2]), .any, .any, .any, .any, .any, .any, .any, .any, .any, .any, .any, .any, .any, .any, .any, .one (.hol (.sl 92 ((Ty.int IntKind.i32).prod ((Ty.bool.prod ((Ty.sl 5 (Ty.int IntKind.u8)).prod Ty.unit)).prod Ty.unit)))), .one (.hol (.int IntKind.i64)), .one (.hol (.int IntKind.i64)), .any, .any, .any, .any, .any, .any, .any], [some [.ptr 1 0, .hol (.int IntKind.i64), .hol (.int IntKind.i64), .hol .bool], some [.onl 5 (Ty.int IntKind.u8) 514, .hol (.int IntKind.i64)], some [.ptr 0 0]]⟩, [(.exit 0, ⟨[.any, .any, .any, .any, .any, .any, .any, .any, .any, .any, .any, .any, .any, .any, .any, .any, .any, .any, .any, .any, .any, .any, .any, .any, .any, .any, .any, .any], [some [.ptr 1 0, .hol (.int IntKind.i64), .hol (.int IntKind.i64), .hol .bool], some [.onl 5 (Ty.int IntKind.u8) 514, .hol (.int IntKind.i64)], some [.ptr 0 0]]⟩)]⟩
-- FqParts_5 : loqParts_5.st.den → Tr (DenX loqParts_5.xs) | ((h6, (h7, (h8, ()))), ((h9, (h10, (h11, ()))), ((h12, (h13, ())), ((), ()))))
noncomputable def FqParts_5 (d : loqParts_5.st.den) : Tr (DenX loqParts_5.xs) :=
  .ite (decide (d.1.2.2.1 = 0) && (decide (d.1.2.1 = (d.1.1.length : Int)) && (decide (d.2.2.1.2.1 = 130048) && (decide (d.2.2.1.1.length ≤ 130048) && spPartsOk d.1.1)))) (.ret (.ret ((), ((), encOutB d.2.1.1 (d.1.1.foldl (fun s x => spPartE x s) (d.2.1.2.1, (d.2.1.2.2.1, d.2.2.1.1))))))) .no
noncomputable def lpqParts : Lp := lpT [(5, loHd loqParts_5 FqParts_5)]
noncomputable def stepqParts_5 {R : Type} (h6 : List tPart.den) (h7 : Int) (h8 : Int) (h9 : Int) (h10 : Int) (h11 : Bool) (h12 : List Int) (h13 : Int) (next : List tPart.den → Int → Int → Int → Int → Bool → List Int → Int → Option R) (out : DenX loqParts_5.xs → Option R) : Option R := bif decide (h8 < h7) then bif decide (0 ≤ h8) && decide (h8 < (↑h6.length : Int)) then bif decide (h13 = 130048) && decide (h12.length ≤ 130048) && decide (List.length (h6.getD h8.toNat (0, (false, [], ()), ())).snd.fst.snd.fst ≤ 2147483647) then next (h6) (h7) (IntKind.i64.wrap (h8 + 1)) (h9) ((spPartE ((h6.getD h8.toNat (0, (false, [], ()), ())).fst, ((h6.getD h8.toNat (0, (false, [], ()), ())).snd.fst.fst, (h6.getD h8.toNat (0, (false, [], ()), ())).snd.fst.snd.fst, ()), ()) (h10, h11, h12)).fst) ((spPartE ((h6.getD h8.toNat (0, (false, [], ()), ())).fst, ((h6.getD h8.toNat (0, (false, [], ()), ())).snd.fst.fst, (h6.getD h8.toNat (0, (false, [], ()), ())).snd.fst.snd.fst, ()), ()) (h10, h11, h12)).snd.fst) ((spPartE ((h6.getD h8.toNat (0, (false, [], ()), ())).fst, ((h6.getD h8.toNat (0, (false, [], ()), ())).snd.fst.fst, (h6.getD h8.toNat (0, (false, [], ()), ())).snd.fst.snd.fst, ()), ()) (h10, h11, h12)).snd.snd) (130048) else none else none else out (.ret ((), ((), ((h9, (h10, (h11, ()))), ((h12, (h13, ())), ((), ()))))))
noncomputable def itqParts_5 (n : Nat) (h6 : List tPart.den) (h7 : Int) (h8 : Int) (h9 : Int) (h10 : Int) (h11 : Bool) (h12 : List Int) (h13 : Int) : Option (DenX loqParts_5.xs) := lpN tt hdqParts dr lpqParts 3 Go.Proofs.Tryz.f45 (topL Go.Proofs.Tryz.f45 0) n (loqParts_5.st.mk' ((h6, (h7, (h8, ()))), ((h9, (h10, (h11, ()))), ((h12, (h13, ())), ((), ()))))) (decX loqParts_5.xs)
theorem slqParts_5 (n : Nat) (h6 : List tPart.den) (h7 : Int) (h8 : Int) (h9 : Int) (h10 : Int) (h11 : Bool) (h12 : List Int) (h13 : Int) : itqParts_5 (n + 1) h6 h7 h8 h9 h10 h11 h12 h13 = stepqParts_5 h6 h7 h8 h9 h10 h11 h12 h13 (itqParts_5 n) some := by kernel_rfl
theorem loopqParts {xs : List tPart.den} (v : Int) (hl : xs.length ≤ maxLen) (hok : ∀ x ∈ xs, partOk x = true) : ∀ (k i : Nat) (s : EnS), xs.length < i + k → i ≤ xs.length → s.2.2.length ≤ 130048 →
    itqParts_5 k xs (xs.length : Int) i v s.1 s.2.1 s.2.2 130048 = some (.ret ((), ((), encOutB v ((xs.drop i).foldl (fun s x => spPartE x s) s)))) := by
  intro k
  induction k with
  | zero => intro i s h; omega
  | succ k ih =>
    intro i s h1 h2 h3
    rw [slqParts_5]
    unfold stepqParts_5
    by_cases hi : i < xs.length
    · refine (bif_true (decide_eq_true (show (i : Int) < (xs.length : Int) by omega)) _ _).trans ?_
      refine (bif_true (by simpa using hi) _ _).trans ?_
      simp only [Int.toNat_natCast, getD_lt hi, wrap_succ hi hl]
      have g : (decide ((130048 : Int) = 130048) && decide (s.2.2.length ≤ 130048) && partOk xs[i]) = true := by
        rw [hok _ (List.getElem_mem hi)]; simpa using h3
      refine (bif_true g _ _).trans ?_
      rw [List.drop_eq_getElem_cons hi]
      exact ih (i + 1) (spPartE xs[i] s) (by omega) (by omega) (spPartE_le _ h3)
    · refine (bif_false (by simp; omega) _ _).trans ?_
      rw [List.drop_of_length_le (by omega)]
      rfl
noncomputable def bodyqParts (a0 : List tPart.den) (a1 : Int) (a2 : Int) (a3 : Bool) (a4 : List Int) (a5 : Int) : Option ioqParts.Res := bif decide (16 < (↑a0.length : Int)) then bif decide (a5 = 130048) && decide (a4.length ≤ 130048) then some (Out.ret ((), ((), a1, (spFail 9 (a2, a3, a4)).fst, (spFail 9 (a2, a3, a4)).snd.fst, ()), ((spFail 9 (a2, a3, a4)).snd.snd, 130048, ()), ((), ()), ())) else none else bif decide (a5 = 130048) && decide (a4.length ≤ 130048) then (FqParts_5 ((a0, ((↑a0.length : Int), (0, ()))), ((a1, ((spPutE (IntKind.i32.wrap (↑a0.length : Int)) 4 (a2, a3, a4)).fst, ((spPutE (IntKind.i32.wrap (↑a0.length : Int)) 4 (a2, a3, a4)).snd.fst, ()))), (((spPutE (IntKind.i32.wrap (↑a0.length : Int)) 4 (a2, a3, a4)).snd.snd, (130048, ())), ((), ()))))).run fun y => match y with | .ret ((), ((), (x27, x28, x29, ()), (x30, x31, ()), (), ())) => (some (Out.ret ((), ((), x27, x28, x29, ()), (x30, x31, ()), ((), ()), ()))) else none
theorem runqParts (a0 : List tPart.den) (a1 : Int) (a2 : Int) (a3 : Bool) (a4 : List Int) (a5 : Int) : Io.run tt hdqParts dr lpqParts ioqParts Go.Proofs.Tryz.f45 (((), a0, (), ()), ((), a1, a2, a3, ()), (a4, a5, ()), ((), ()), ()) = bodyqParts a0 a1 a2 a3 a4 a5 := by kernel_rfl
theorem okqParts : HcOk prog 45 (ioHd ioqParts FqParts) := by
  refine fn_sound (n := 400) hm (cs := csqParts) (.cons okeFail (.cons okeI32 (.cons okqPart .nil))) (lp := lpqParts) (fn := Go.Proofs.Tryz.f45) (by kernel_rfl) (by kernel_rfl) (by kernel_rfl) ioqParts (.step (h0 := loHd loqParts_5 FqParts_5) (by kernel_rfl) (loop_sound (n := 400) hm (cs := csqParts) (.cons okeFail (.cons okeI32 (.cons okqPart .nil))) (lp := lpqParts) (fn := Go.Proofs.Tryz.f45) (.done (by kernel_rfl)) loqParts_5 FqParts_5 ?_) (.done (by kernel_rfl))) FqParts ?_
  · rintro ⟨⟨(xs : List tPart.den), (n : Int), (i : Int), ⟨⟩⟩, ⟨⟨(v : Int), (e : Int), (f : Bool), ⟨⟩⟩, ⟨(b : List Int), (m : Int), ⟨⟩⟩, ⟨⟨⟩, ⟨⟩⟩⟩⟩ y hw hy
    obtain ⟨hg, hy⟩ := Tr.guard hy
    simp only [Bool.and_eq_true, decide_eq_true_eq] at hg
    obtain ⟨rfl, rfl, rfl, h4, h5⟩ := hg
    have h4 : b.length ≤ 130048 := h4
    have h5 : ∀ x ∈ xs, partOk x = true := List.all_eq_true.1 h5
    have hl : xs.length ≤ maxLen := hw.1.1.1
    refine ⟨xs.length + 1, (loopqParts v hl h5 (xs.length + 1) 0 (e, (f, b)) (by omega) (by omega) h4).trans ?_⟩
    rw [← hy]; rfl
  · rintro ⟨⟨⟨⟩, (xs : List tPart.den), ⟨⟩, ⟨⟩⟩, ⟨⟨⟩, (v : Int), (e : Int), (f : Bool), ⟨⟩⟩, ⟨(b : List Int), (m : Int), ⟨⟩⟩, ⟨⟨⟩, ⟨⟩⟩, ⟨⟩⟩ out hw ho
    obtain ⟨hg, ho⟩ := Tr.guard ho
    obtain ⟨hg, h5⟩ := Bool.and_eq_true_iff.1 hg
    obtain ⟨rfl, hb⟩ := encOk_iff (v := v) (e := e) (f := f) hg
    have h5 : spPartsOk xs = true := h5
    cases ho
    refine (runqParts xs v e f b 130048).trans ?_
    unfold bodyqParts
    have g : (decide ((130048 : Int) = 130048) && decide (b.length ≤ 130048)) = true := by simpa using hb
    show _ = some (Out.ret ((), encOutC v (spItems spPartE xs (e, f, b))))
    unfold spItems
    by_cases h : 16 < (xs.length : Int)
    · rw [if_pos h]
      refine (bif_true (decide_eq_true h) _ _).trans ?_
      exact bif_true g _ _
    · rw [if_neg h]
      refine (bif_false (decide_eq_false h) _ _).trans ?_
      refine (bif_true g _ _).trans ?_
      have hw32 : IntKind.i32.wrap (xs.length : Int) = xs.length := wrap_id (by simp [inR, IntKind.min, IntKind.max, IntKind.signed, IntKind.bits]; omega)
      rw [hw32]
      have c1 : (decide ((0 : Int) = 0) && (decide ((xs.length : Int) = (xs.length : Int)) && (decide ((130048 : Int) = 130048) && (decide ((spPutE xs.length 4 (e, f, b)).2.2.length ≤ 130048) && spPartsOk xs)))) = true := by
        rw [h5]; simpa using spPutE_le (s := (e, f, b)) _ 4 hb
      have e1 : FqParts_5 ((xs, ((xs.length : Int), (0, ()))), ((v, ((spPutE xs.length 4 (e, f, b)).1, ((spPutE xs.length 4 (e, f, b)).2.1, ()))), (((spPutE xs.length 4 (e, f, b)).2.2, (130048, ())), ((), ())))) =
          .ite true (.ret (.ret ((), ((), encOutB v (xs.foldl (fun s x => spPartE x s) (spPutE xs.length 4 (e, f, b))))))) .no := congrArg (fun c => Tr.ite c _ _) c1
      rw [e1]
      rfl
/-! ### leat/produce.EncodeReq$1 -/
noncomputable abbrev tTopic : Ty := .prod .str (.prod (.sl 92 tPart) .unit)
noncomputable def spTopicE (t : tTopic.den) (s : EnS) : EnS := spItems spPartE t.2.1 (spStrE t.1 s)
noncomputable def topicOk (t : tTopic.den) : Bool := spPartsOk t.2.1
noncomputable def spTopicsOk (xs : List tTopic.den) : Bool := xs.all topicOk
noncomputable abbrev ioqTopic : Io := ⟨[.dat tTopic true false, .ptr 0 0], oEnc1, [], [], none⟩
noncomputable def FqTopic (d : ioqTopic.In) : Tr ioqTopic.Res := .ite (encOk d.2.2 && topicOk d.1.1) (.ret (.ret ((), encOut1 d.2.2.1.2.1 (spTopicE d.1.1 (encSt d.2.2))))) .no
noncomputable abbrev csqTopic : List (Nat × Hc) := [(44, ioHd ioeStr FeStr), (45, ioHd ioqParts FqParts)]
noncomputable def hdqTopic : Hd := hdT csqTopic
noncomputable def lpqTopic : Lp := lpT []

noncomputable def bodyqTopic (a0 : List Int) (a1 : List tPart.den) (a2 : Int) (a3 : Int) (a4 : Bool) (a5 : List Int) (a6 : Int) : Option ioqTopic.Res := bif decide (a6 = 130048) && decide (a5.length ≤ 130048) then bif decide (130048 = 130048) && decide ((spStrE a0 (a3, a4, a5)).snd.snd.length ≤ 130048) && spPartsOk a1 then some (Out.ret ((), ((), ()), ((), a2, (spItems spPartE a1 (spStrE a0 (a3, a4, a5))).fst, (spItems spPartE a1 (spStrE a0 (a3, a4, a5))).snd.fst, ()), ((spItems spPartE a1 (spStrE a0 (a3, a4, a5))).snd.snd, 130048, ()), ())) else none else none
theorem runqTopic (a0 : List Int) (a1 : List tPart.den) (a2 : Int) (a3 : Int) (a4 : Bool) (a5 : List Int) (a6 : Int) : Io.run tt hdqTopic dr lpqTopic ioqTopic Go.Proofs.Tryz.f43 (((a0, a1, ()), (), ()), ((), ()), ((), a2, a3, a4, ()), (a5, a6, ()), ()) = bodyqTopic a0 a1 a2 a3 a4 a5 a6 := by kernel_rfl
theorem okqTopic : HcOk prog 43 (ioHd ioqTopic FqTopic) := by
  refine fn_sound (n := 400) hm (cs := csqTopic) (.cons okeStr (.cons okqParts .nil)) (lp := lpqTopic) (fn := Go.Proofs.Tryz.f43) (by kernel_rfl) (by kernel_rfl) (by kernel_rfl) ioqTopic (.done (by kernel_rfl)) FqTopic ?_
  rintro ⟨⟨⟨(t : List Int), (ps : List tPart.den), ⟨⟩⟩, ⟨⟩, ⟨⟩⟩, ⟨⟨⟩, ⟨⟩⟩, ⟨⟨⟩, (v : Int), (e : Int), (f : Bool), ⟨⟩⟩, ⟨(b : List Int), (m : Int), ⟨⟩⟩, ⟨⟩⟩ out hw ho
  obtain ⟨hg, ho⟩ := Tr.guard ho
  obtain ⟨hg, h5⟩ := Bool.and_eq_true_iff.1 hg
  obtain ⟨rfl, hb⟩ := encOk_iff (v := v) (e := e) (f := f) hg
  have h5 : spPartsOk ps = true := h5
  cases ho
  refine (runqTopic t ps v e f b 130048).trans ?_
  unfold bodyqTopic
  refine (bif_true (by simpa using hb) _ _).trans ?_
  refine (bif_true (by rw [h5]; simpa using spStrE_le (s := (e, f, b)) t hb) _ _).trans ?_
  rfl
theorem spTopicE_le {s : EnS} (t : tTopic.den) (h : s.2.2.length ≤ 130048) : (spTopicE t s).2.2.length ≤ 130048 := spItems_le (fun x s => spPartE_le x) _ (spStrE_le _ h)
theorem spLacks_le {s : EnS} (v : Int) (z : Bool) (lo hi : Int) (h : s.2.2.length ≤ 130048) : (spLacks v z lo hi s).2.2.length ≤ 130048 := by
  unfold spLacks
  split
  · exact spFail_le _ h
  · exact h
theorem spNameE_le {s : EnS} (n : Bool × (List Int × Unit)) (h : s.2.2.length ≤ 130048) : (spNameE n s).2.2.length ≤ 130048 := by
  unfold spNameE
  split
  · exact spFail_le _ h
  · split
    · exact spPutE_le _ _ h
    · exact spStrE_le _ h


/-! ### leat/wire.Items[leat/api.ProdTopic] -/
noncomputable abbrev ioqTopics : Io := ⟨[.ptr 0 0, .dat (.sl 86 tTopic) false false, .fnc 43 false [2]], oEncC, [], [], none⟩
noncomputable def FqTopics (d : ioqTopics.In) : Tr ioqTopics.Res := .ite (encOkC d.2 && spTopicsOk d.1.2.1) (.ret (.ret ((), encOutC d.2.1.2.1 (spItems spTopicE d.1.2.1 (encStC d.2))))) .no
noncomputable abbrev csqTopics : List (Nat × Hc) := [(100, ioHd ioeFail FeFail), (41, ioHd ioeI32 FeI32), (43, ioHd ioqTopic FqTopic)]
noncomputable def hdqTopics : Hd := hdT csqTopics
noncomputable abbrev loqTopics_5 : Lo := ⟨⟨[.any, .any, .one (.fnp 43 false [2]), .any, .any, .any, .any, .any, .any, .any, .any, .any, .any, .any, .any, .any, .any, .any, .one (.hol (.sl 86 (Ty.str.prod ((Ty.sl 92 ((Ty.int IntKind.i32).prod ((Ty.bool.prod ((Ty.sl 5 (Ty.int IntKind.u8)).prod Ty.unit)).prod Ty.unit))).prod Ty.unit)))), .one (.hol (.int IntKind.i64)), .one (.hol (.int IntKind.i64)), .any, .any, .any, .any, .any, .any, .any], [some [.ptr 1 0, .hol (.int IntKind.i64), .hol (.int IntKind.i64), .hol .bool], some [.onl 5 (Ty.int IntKind.u8) 514, .hol (.int IntKind.i64)], some [.ptr 0 0]]⟩, [(.exit 0, ⟨[.any, .any, .any, .any, .any, .any, .any, .any, .any, .any, .any, .any, .any, .any, .any, .any, .any, .any, .any, .any, .any, .any, .any, .any, .any, .any, .any, .any], [some [.ptr 1 0, .hol (.int IntKind.i64), .hol (.int IntKind.i64), .hol .bool], some [.onl 5 (Ty.int IntKind.u8) 514, .hol (.int IntKind.i64)], some [.ptr 0 0]]⟩)]⟩
-- FqTopics_5 : loqTopics_5.st.den → Tr (DenX loqTopics_5.xs) | ((h6, (h7, (h8, ()))), ((h9, (h10, (h11, ()))), ((h12, (h13, ())), ((), ()))))
noncomputable def FqTopics_5 (d : loqTopics_5.st.den) : Tr (DenX loqTopics_5.xs) :=
  .ite (decide (d.1.2.2.1 = 0) && (decide (d.1.2.1 = (d.1.1.length : Int)) && (decide (d.2.2.1.2.1 = 130048) && (decide (d.2.2.1.1.length ≤ 130048) && spTopicsOk d.1.1)))) (.ret (.ret ((), ((), encOutB d.2.1.1 (d.1.1.foldl (fun s x => spTopicE x s) (d.2.1.2.1, (d.2.1.2.2.1, d.2.2.1.1))))))) .no
noncomputable def lpqTopics : Lp := lpT [(5, loHd loqTopics_5 FqTopics_5)]
noncomputable def stepqTopics_5 {R : Type} (h6 : List tTopic.den) (h7 : Int) (h8 : Int) (h9 : Int) (h10 : Int) (h11 : Bool) (h12 : List Int) (h13 : Int) (next : List tTopic.den → Int → Int → Int → Int → Bool → List Int → Int → Option R) (out : DenX loqTopics_5.xs → Option R) : Option R := bif decide (h8 < h7) then bif decide (0 ≤ h8) && decide (h8 < (↑h6.length : Int)) then bif decide (h13 = 130048) && decide (h12.length ≤ 130048) && spPartsOk (h6.getD h8.toNat ([], [], ())).snd.fst then next (h6) (h7) (IntKind.i64.wrap (h8 + 1)) (h9) ((spTopicE ((h6.getD h8.toNat ([], [], ())).fst, (h6.getD h8.toNat ([], [], ())).snd.fst, ()) (h10, h11, h12)).fst) ((spTopicE ((h6.getD h8.toNat ([], [], ())).fst, (h6.getD h8.toNat ([], [], ())).snd.fst, ()) (h10, h11, h12)).snd.fst) ((spTopicE ((h6.getD h8.toNat ([], [], ())).fst, (h6.getD h8.toNat ([], [], ())).snd.fst, ()) (h10, h11, h12)).snd.snd) (130048) else none else none else out (.ret ((), ((), ((h9, (h10, (h11, ()))), ((h12, (h13, ())), ((), ()))))))
noncomputable def itqTopics_5 (n : Nat) (h6 : List tTopic.den) (h7 : Int) (h8 : Int) (h9 : Int) (h10 : Int) (h11 : Bool) (h12 : List Int) (h13 : Int) : Option (DenX loqTopics_5.xs) := lpN tt hdqTopics dr lpqTopics 3 Go.Proofs.Tryz.f42 (topL Go.Proofs.Tryz.f42 0) n (loqTopics_5.st.mk' ((h6, (h7, (h8, ()))), ((h9, (h10, (h11, ()))), ((h12, (h13, ())), ((), ()))))) (decX loqTopics_5.xs)
theorem slqTopics_5 (n : Nat) (h6 : List tTopic.den) (h7 : Int) (h8 : Int) (h9 : Int) (h10 : Int) (h11 : Bool) (h12 : List Int) (h13 : Int) : itqTopics_5 (n + 1) h6 h7 h8 h9 h10 h11 h12 h13 = stepqTopics_5 h6 h7 h8 h9 h10 h11 h12 h13 (itqTopics_5 n) some := by kernel_rfl
theorem loopqTopics {xs : List tTopic.den} (v : Int) (hl : xs.length ≤ maxLen) (hok : ∀ x ∈ xs, topicOk x = true) : ∀ (k i : Nat) (s : EnS), xs.length < i + k → i ≤ xs.length → s.2.2.length ≤ 130048 →
    itqTopics_5 k xs (xs.length : Int) i v s.1 s.2.1 s.2.2 130048 = some (.ret ((), ((), encOutB v ((xs.drop i).foldl (fun s x => spTopicE x s) s)))) := by
  intro k
  induction k with
  | zero => intro i s h; omega
  | succ k ih =>
    intro i s h1 h2 h3
    rw [slqTopics_5]
    unfold stepqTopics_5
    by_cases hi : i < xs.length
    · refine (bif_true (decide_eq_true (show (i : Int) < (xs.length : Int) by omega)) _ _).trans ?_
      refine (bif_true (by simpa using hi) _ _).trans ?_
      simp only [Int.toNat_natCast, getD_lt hi, wrap_succ hi hl]
      have g : (decide ((130048 : Int) = 130048) && decide (s.2.2.length ≤ 130048) && topicOk xs[i]) = true := by
        rw [hok _ (List.getElem_mem hi)]; simpa using h3
      refine (bif_true g _ _).trans ?_
      rw [List.drop_eq_getElem_cons hi]
      exact ih (i + 1) (spTopicE xs[i] s) (by omega) (by omega) (spTopicE_le _ h3)
    · refine (bif_false (by simp; omega) _ _).trans ?_
      rw [List.drop_of_length_le (by omega)]
      rfl
noncomputable def bodyqTopics (a0 : List tTopic.den) (a1 : Int) (a2 : Int) (a3 : Bool) (a4 : List Int) (a5 : Int) : Option ioqTopics.Res := bif decide (16 < (↑a0.length : Int)) then bif decide (a5 = 130048) && decide (a4.length ≤ 130048) then some (Out.ret ((), ((), a1, (spFail 9 (a2, a3, a4)).fst, (spFail 9 (a2, a3, a4)).snd.fst, ()), ((spFail 9 (a2, a3, a4)).snd.snd, 130048, ()), ((), ()), ())) else none else bif decide (a5 = 130048) && decide (a4.length ≤ 130048) then (FqTopics_5 ((a0, ((↑a0.length : Int), (0, ()))), ((a1, ((spPutE (IntKind.i32.wrap (↑a0.length : Int)) 4 (a2, a3, a4)).fst, ((spPutE (IntKind.i32.wrap (↑a0.length : Int)) 4 (a2, a3, a4)).snd.fst, ()))), (((spPutE (IntKind.i32.wrap (↑a0.length : Int)) 4 (a2, a3, a4)).snd.snd, (130048, ())), ((), ()))))).run fun y => match y with | .ret ((), ((), (x27, x28, x29, ()), (x30, x31, ()), (), ())) => (some (Out.ret ((), ((), x27, x28, x29, ()), (x30, x31, ()), ((), ()), ()))) else none
theorem runqTopics (a0 : List tTopic.den) (a1 : Int) (a2 : Int) (a3 : Bool) (a4 : List Int) (a5 : Int) : Io.run tt hdqTopics dr lpqTopics ioqTopics Go.Proofs.Tryz.f42 (((), a0, (), ()), ((), a1, a2, a3, ()), (a4, a5, ()), ((), ()), ()) = bodyqTopics a0 a1 a2 a3 a4 a5 := by kernel_rfl
theorem okqTopics : HcOk prog 42 (ioHd ioqTopics FqTopics) := by
  refine fn_sound (n := 400) hm (cs := csqTopics) (.cons okeFail (.cons okeI32 (.cons okqTopic .nil))) (lp := lpqTopics) (fn := Go.Proofs.Tryz.f42) (by kernel_rfl) (by kernel_rfl) (by kernel_rfl) ioqTopics (.step (h0 := loHd loqTopics_5 FqTopics_5) (by kernel_rfl) (loop_sound (n := 400) hm (cs := csqTopics) (.cons okeFail (.cons okeI32 (.cons okqTopic .nil))) (lp := lpqTopics) (fn := Go.Proofs.Tryz.f42) (.done (by kernel_rfl)) loqTopics_5 FqTopics_5 ?_) (.done (by kernel_rfl))) FqTopics ?_
  · rintro ⟨⟨(xs : List tTopic.den), (n : Int), (i : Int), ⟨⟩⟩, ⟨⟨(v : Int), (e : Int), (f : Bool), ⟨⟩⟩, ⟨(b : List Int), (m : Int), ⟨⟩⟩, ⟨⟨⟩, ⟨⟩⟩⟩⟩ y hw hy
    obtain ⟨hg, hy⟩ := Tr.guard hy
    simp only [Bool.and_eq_true, decide_eq_true_eq] at hg
    obtain ⟨rfl, rfl, rfl, h4, h5⟩ := hg
    have h4 : b.length ≤ 130048 := h4
    have h5 : ∀ x ∈ xs, topicOk x = true := List.all_eq_true.1 h5
    have hl : xs.length ≤ maxLen := hw.1.1.1
    refine ⟨xs.length + 1, (loopqTopics v hl h5 (xs.length + 1) 0 (e, (f, b)) (by omega) (by omega) h4).trans ?_⟩
    rw [← hy]; rfl
  · rintro ⟨⟨⟨⟩, (xs : List tTopic.den), ⟨⟩, ⟨⟩⟩, ⟨⟨⟩, (v : Int), (e : Int), (f : Bool), ⟨⟩⟩, ⟨(b : List Int), (m : Int), ⟨⟩⟩, ⟨⟨⟩, ⟨⟩⟩, ⟨⟩⟩ out hw ho
    obtain ⟨hg, ho⟩ := Tr.guard ho
    obtain ⟨hg, h5⟩ := Bool.and_eq_true_iff.1 hg
    obtain ⟨rfl, hb⟩ := encOk_iff (v := v) (e := e) (f := f) hg
    have h5 : spTopicsOk xs = true := h5
    cases ho
    refine (runqTopics xs v e f b 130048).trans ?_
    unfold bodyqTopics
    have g : (decide ((130048 : Int) = 130048) && decide (b.length ≤ 130048)) = true := by simpa using hb
    show _ = some (Out.ret ((), encOutC v (spItems spTopicE xs (e, f, b))))
    unfold spItems
    by_cases h : 16 < (xs.length : Int)
    · rw [if_pos h]
      refine (bif_true (decide_eq_true h) _ _).trans ?_
      exact bif_true g _ _
    · rw [if_neg h]
      refine (bif_false (decide_eq_false h) _ _).trans ?_
      refine (bif_true g _ _).trans ?_
      have hw32 : IntKind.i32.wrap (xs.length : Int) = xs.length := wrap_id (by simp [inR, IntKind.min, IntKind.max, IntKind.signed, IntKind.bits]; omega)
      rw [hw32]
      have c1 : (decide ((0 : Int) = 0) && (decide ((xs.length : Int) = (xs.length : Int)) && (decide ((130048 : Int) = 130048) && (decide ((spPutE xs.length 4 (e, f, b)).2.2.length ≤ 130048) && spTopicsOk xs)))) = true := by
        rw [h5]; simpa using spPutE_le (s := (e, f, b)) _ 4 hb
      have e1 : FqTopics_5 ((xs, ((xs.length : Int), (0, ()))), ((v, ((spPutE xs.length 4 (e, f, b)).1, ((spPutE xs.length 4 (e, f, b)).2.1, ()))), (((spPutE xs.length 4 (e, f, b)).2.2, (130048, ())), ((), ())))) =
          .ite true (.ret (.ret ((), ((), encOutB v (xs.foldl (fun s x => spTopicE x s) (spPutE xs.length 4 (e, f, b))))))) .no := congrArg (fun c => Tr.ite c _ _) c1
      rw [e1]
      rfl

/-! ### leat/produce.EncodeReq -/
noncomputable abbrev tReq : Ty := .prod tNameT (.prod (.int .i16) (.prod (.int .i32) (.prod (.sl 86 tTopic) .unit)))
/-- The transaction's name, in version 3 alone. -/
noncomputable def spTxnE (v : Int) (n : tNameT.den) (s : EnS) : EnS := if v = 3 then spNameE n s else s
noncomputable def spReqE (v : Int) (m : tReq.den) : EnS :=
  spItems spTopicE m.2.2.2.1 (spPutE m.2.2.1 4 (spPutE m.2.1 2 (spTxnE v m.1 (spLacks v (m.1.1 == false && decide (m.1.2.1 = [])) 3 3 (spNewE v, (false, ([] : List Int)))))))
noncomputable abbrev ioqReq : Io := ⟨[dI, .dat tReq true false], [], [], [dO, dI], none⟩
noncomputable def FqReq (d : ioqReq.In) : Tr ioqReq.Res := .ite (spTopicsOk d.1.2.1.2.2.2.1) (.ret (.ret ((spDoneO (spReqE d.1.1 d.1.2.1), (spDoneE (spReqE d.1.1 d.1.2.1), ())), ()))) .no
noncomputable abbrev csqReq : List (Nat × Hc) := [(36, ioHd ioeNew FeNew), (37, ioHd ioeLacks FeLacks), (38, ioHd ioeHas FeHas), (39, ioHd ioeName FeName), (40, ioHd ioeI16 FeI16), (41, ioHd ioeI32 FeI32), (42, ioHd ioqTopics FqTopics), (48, ioHd ioeDone FeDone)]
noncomputable def hdqReq : Hd := hdT csqReq
noncomputable def lpqReq : Lp := lpT []

noncomputable def bodyqReq (a0 : Int) (a1 : Bool) (a2 : List Int) (a3 : Int) (a4 : Int) (a5 : List tTopic.den) : Option ioqReq.Res := bif decide (130048 = 130048) && decide ((spLacks a0 (a1 == false && (decide (a2 = List.map (fun (c : UInt8) => (↑c.toNat : Int)) []) && true)) 3 3 (spNewE a0, false, [])).snd.snd.length ≤ 130048) then bif decide (3 ≤ a0) && decide (a0 ≤ 3) then bif decide (130048 = 130048) && decide ((spLacks a0 (a1 == false && (decide (a2 = List.map (fun (c : UInt8) => (↑c.toNat : Int)) []) && true)) 3 3 (spNewE a0, false, [])).snd.snd.length ≤ 130048) then bif decide (130048 = 130048) && decide ((spNameE (a1, a2, ()) (spLacks a0 (a1 == false && (decide (a2 = List.map (fun (c : UInt8) => (↑c.toNat : Int)) []) && true)) 3 3 (spNewE a0, false, []))).snd.snd.length ≤ 130048) then bif decide (130048 = 130048) && decide ((spPutE a3 2 (spNameE (a1, a2, ()) (spLacks a0 (a1 == false && (decide (a2 = List.map (fun (c : UInt8) => (↑c.toNat : Int)) []) && true)) 3 3 (spNewE a0, false, [])))).snd.snd.length ≤ 130048) then bif decide (130048 = 130048) && decide ((spPutE a4 4 (spPutE a3 2 (spNameE (a1, a2, ()) (spLacks a0 (a1 == false && (decide (a2 = List.map (fun (c : UInt8) => (↑c.toNat : Int)) []) && true)) 3 3 (spNewE a0, false, []))))).snd.snd.length ≤ 130048) && spTopicsOk a5 then bif decide (130048 = 130048) && decide ((spItems spTopicE a5 (spPutE a4 4 (spPutE a3 2 (spNameE (a1, a2, ()) (spLacks a0 (a1 == false && (decide (a2 = List.map (fun (c : UInt8) => (↑c.toNat : Int)) []) && true)) 3 3 (spNewE a0, false, [])))))).snd.snd.length ≤ 130048) then some (Out.ret ((spDoneO (spItems spTopicE a5 (spPutE a4 4 (spPutE a3 2 (spNameE (a1, a2, ()) (spLacks a0 (a1 == false && (decide (a2 = List.map (fun (c : UInt8) => (↑c.toNat : Int)) []) && true)) 3 3 (spNewE a0, false, [])))))), spDoneE (spItems spTopicE a5 (spPutE a4 4 (spPutE a3 2 (spNameE (a1, a2, ()) (spLacks a0 (a1 == false && (decide (a2 = List.map (fun (c : UInt8) => (↑c.toNat : Int)) []) && true)) 3 3 (spNewE a0, false, [])))))), ()), ())) else none else none else none else none else none else bif decide (130048 = 130048) && decide ((spLacks a0 (a1 == false && (decide (a2 = List.map (fun (c : UInt8) => (↑c.toNat : Int)) []) && true)) 3 3 (spNewE a0, false, [])).snd.snd.length ≤ 130048) then bif decide (130048 = 130048) && decide ((spPutE a3 2 (spLacks a0 (a1 == false && (decide (a2 = List.map (fun (c : UInt8) => (↑c.toNat : Int)) []) && true)) 3 3 (spNewE a0, false, []))).snd.snd.length ≤ 130048) then bif decide (130048 = 130048) && decide ((spPutE a4 4 (spPutE a3 2 (spLacks a0 (a1 == false && (decide (a2 = List.map (fun (c : UInt8) => (↑c.toNat : Int)) []) && true)) 3 3 (spNewE a0, false, [])))).snd.snd.length ≤ 130048) && spTopicsOk a5 then bif decide (130048 = 130048) && decide ((spItems spTopicE a5 (spPutE a4 4 (spPutE a3 2 (spLacks a0 (a1 == false && (decide (a2 = List.map (fun (c : UInt8) => (↑c.toNat : Int)) []) && true)) 3 3 (spNewE a0, false, []))))).snd.snd.length ≤ 130048) then some (Out.ret ((spDoneO (spItems spTopicE a5 (spPutE a4 4 (spPutE a3 2 (spLacks a0 (a1 == false && (decide (a2 = List.map (fun (c : UInt8) => (↑c.toNat : Int)) []) && true)) 3 3 (spNewE a0, false, []))))), spDoneE (spItems spTopicE a5 (spPutE a4 4 (spPutE a3 2 (spLacks a0 (a1 == false && (decide (a2 = List.map (fun (c : UInt8) => (↑c.toNat : Int)) []) && true)) 3 3 (spNewE a0, false, []))))), ()), ())) else none else none else none else none else none
theorem runqReq (a0 : Int) (a1 : Bool) (a2 : List Int) (a3 : Int) (a4 : Int) (a5 : List tTopic.den) : Io.run tt hdqReq dr lpqReq ioqReq Go.Proofs.Tryz.f11 ((a0, ((a1, a2, ()), a3, a4, a5, ()), ()), ()) = bodyqReq a0 a1 a2 a3 a4 a5 := by kernel_rfl
theorem okqReq : HcOk prog 11 (ioHd ioqReq FqReq) := by
  refine fn_sound (n := 400) hm (cs := csqReq) (.cons okeNew (.cons okeLacks (.cons okeHas (.cons okeName (.cons okeI16 (.cons okeI32 (.cons okqTopics (.cons okeDone .nil)))))))) (lp := lpqReq) (fn := Go.Proofs.Tryz.f11) (by kernel_rfl) (by kernel_rfl) (by kernel_rfl) ioqReq (.done (by kernel_rfl)) FqReq ?_
  rintro ⟨⟨(v : Int), ⟨⟨(z : Bool), (t : List Int), ⟨⟩⟩, (a : Int), (w : Int), (ts : List tTopic.den), ⟨⟩⟩, ⟨⟩⟩, ⟨⟩⟩ out hw ho
  obtain ⟨h5, ho⟩ := Tr.guard ho
  have h5 : spTopicsOk ts = true := h5
  cases ho
  refine (runqReq v z t a w ts).trans ?_
  unfold bodyqReq
  have hg : ∀ s : EnS, s.2.2.length ≤ 130048 → (decide ((130048 : Int) = 130048) && decide (s.2.2.length ≤ 130048)) = true := fun s h => by simpa using h
  have l0 : ∀ z, (spLacks v z 3 3 (spNewE v, (false, ([] : List Int)))).2.2.length ≤ 130048 := fun z => spLacks_le _ _ _ _ (by simp)
  refine (bif_true (hg _ (l0 _)) _ _).trans ?_
  by_cases hv : v = 3
  · refine (bif_true (by simp; omega) _ _).trans ?_
    refine (bif_true (hg _ (l0 _)) _ _).trans ?_
    have l1 := spNameE_le (z, (t, ())) (l0 (z == false && (decide (t = List.map (fun (c : UInt8) => (c.toNat : Int)) []) && true)))
    refine (bif_true (hg _ l1) _ _).trans ?_
    refine (bif_true (hg _ (spPutE_le _ _ l1)) _ _).trans ?_
    have l2 := spPutE_le w 4 (spPutE_le a 2 l1)
    refine (bif_true (by rw [h5, Bool.and_true]; exact hg _ l2) _ _).trans ?_
    refine (bif_true (hg _ (spItems_le (fun x s => spTopicE_le x) _ l2)) _ _).trans ?_
    simp only [spReqE, spTxnE, if_pos hv, List.map_nil, Bool.and_true]
  · refine (bif_false (by simp; omega) _ _).trans ?_
    have l1 := l0 (z == false && (decide (t = List.map (fun (c : UInt8) => (c.toNat : Int)) []) && true))
    refine (bif_true (hg _ l1) _ _).trans ?_
    refine (bif_true (hg _ (spPutE_le _ _ l1)) _ _).trans ?_
    have l2 := spPutE_le w 4 (spPutE_le a 2 l1)
    refine (bif_true (by rw [h5, Bool.and_true]; exact hg _ l2) _ _).trans ?_
    refine (bif_true (hg _ (spItems_le (fun x s => spTopicE_le x) _ l2)) _ _).trans ?_
    simp only [spReqE, spTxnE, if_neg hv, List.map_nil, Bool.and_true]
end
end Go.Proofs.YtmlgepgcofmpeaaGreat.Sym
