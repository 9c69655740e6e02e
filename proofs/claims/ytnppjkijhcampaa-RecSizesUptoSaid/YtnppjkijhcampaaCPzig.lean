/- vint: numbers. -/
import Derived.Test.YtnppjkijhcampaaCVnum

namespace Go.Proofs.Ytnppjkijhcampaa.Sym
open Go
set_option linter.unusedSimpArgs false
set_option linter.unusedVariables false
noncomputable section

theorem xor_zero {x : Int} (h0 : 0 ≤ x) (h : x < 18446744073709551616) : spXor .u64 x 0 = x := by
  show IntKind.wrap .u64 ((BitVec.ofInt 64 x ^^^ BitVec.ofInt 64 0).toNat : Int) = x
  rw [show BitVec.ofInt 64 0 = 0#64 from rfl, BitVec.xor_zero, BitVec.toNat_ofInt, wrap_u64] <;> omega
theorem xor_ones {x : Int} (h0 : 0 ≤ x) (h : x < 18446744073709551616) : spXor .u64 x 18446744073709551615 = 18446744073709551615 - x := by
  show IntKind.wrap .u64 ((BitVec.ofInt 64 x ^^^ BitVec.ofInt 64 18446744073709551615).toNat : Int) = _
  rw [show BitVec.ofInt 64 18446744073709551615 = BitVec.allOnes 64 from rfl, BitVec.xor_allOnes, BitVec.toNat_not, BitVec.toNat_ofInt, wrap_u64] <;> omega

/-! ### leat/vint.Zig -/
noncomputable abbrev iopZig : Io := ⟨[d64], [], [], [dV], none⟩
noncomputable def FpZig (d : iopZig.In) : Tr iopZig.Res := .ret (.ret ((spZig d.1.1, ()), ()))
noncomputable abbrev cspZig : List (Nat × Hc) := []
noncomputable def hdpZig : Hd := hdT cspZig
noncomputable def lppZig : Lp := lpT []

noncomputable def bodypZig (a0 : Int) : Option iopZig.Res := some (Out.ret ((spXor IntKind.u64 (spShl IntKind.u64 (IntKind.u64.wrap a0) 1) (IntKind.u64.wrap (spShr IntKind.i64 a0 63)), ()), ()))
theorem runpZig (a0 : Int) : Io.run tt hdpZig dr lppZig iopZig Go.Proofs.Try.f68 ((a0, ()), ()) = bodypZig a0 := by kernel_rfl
theorem okpZig : HcOk prog 68 (ioHd iopZig FpZig) := by
  refine fn_sound (n := 400) hm (cs := cspZig) HcsOk.nil (lp := lppZig) (fn := Go.Proofs.Try.f68) (by kernel_rfl) (by kernel_rfl) (by kernel_rfl) iopZig (.done (by kernel_rfl)) FpZig ?_
  rintro ⟨⟨(v : Int), ⟨⟩⟩, ⟨⟩⟩ out hw ho
  cases ho
  refine (runpZig v).trans ?_
  have hr := inR_i64.1 (show inR .i64 v from hw.1.1)
  unfold bodypZig
  show _ = some (Out.ret ((spZig v, ()), ()))
  have e1 : spShr .i64 v 63 = if 0 ≤ v then 0 else -1 := by
    show IntKind.wrap .i64 (v.fdiv (2 ^ 63)) = _
    rw [Int.fdiv_eq_ediv_of_nonneg _ (by decide)]
    split
    · rw [wrap_i64] <;> omega
    · rw [wrap_i64] <;> omega
  have e2 : spShl .u64 (IntKind.wrap .u64 v) 1 = (v * 2) % 18446744073709551616 := by
    show IntKind.wrap .u64 (IntKind.wrap .u64 v * 2 ^ 1) = _
    rw [wrap_u64_mod, wrap_u64_mod]
    omega
  rw [e1, e2]
  unfold spZig
  split
  · rw [show IntKind.wrap .u64 0 = 0 from rfl, xor_zero (by omega) (by omega), show v * 2 % 18446744073709551616 = 2 * v by omega]
  · rw [show IntKind.wrap .u64 (-1) = 18446744073709551615 from rfl, xor_ones (by omega) (by omega), show 18446744073709551615 - v * 2 % 18446744073709551616 = -2 * v - 1 by omega]

theorem xor_ones64 {x : Int} (h0 : 0 ≤ x) (h : x < 9223372036854775808) : spXor .i64 x (-1) = -x - 1 := by
  show IntKind.wrap .i64 ((BitVec.ofInt 64 x ^^^ BitVec.ofInt 64 (-1)).toNat : Int) = _
  rw [show BitVec.ofInt 64 (-1) = BitVec.allOnes 64 from rfl, BitVec.xor_allOnes, BitVec.toNat_not, BitVec.toNat_ofInt]
  simp only [IntKind.wrap, IntKind.signed, IntKind.bits]
  simp
  omega
theorem xor_zero64 {x : Int} (h0 : 0 ≤ x) (h : x < 9223372036854775808) : spXor .i64 x 0 = x := by
  show IntKind.wrap .i64 ((BitVec.ofInt 64 x ^^^ BitVec.ofInt 64 0).toNat : Int) = _
  rw [show BitVec.ofInt 64 0 = 0#64 from rfl, BitVec.xor_zero, BitVec.toNat_ofInt, wrap_i64] <;> omega
theorem and_one {x : Int} (h0 : 0 ≤ x) (h : x < 18446744073709551616) : spAnd .u64 x 1 = x % 2 := by
  show IntKind.wrap .u64 ((BitVec.ofInt 64 x &&& BitVec.ofInt 64 1).toNat : Int) = _
  rw [BitVec.toNat_and, show (BitVec.ofInt 64 1).toNat = 1 from rfl, BitVec.toNat_ofInt, Nat.and_one_is_mod, wrap_u64] <;> omega

/-! ### leat/vint.Zag -/
noncomputable abbrev iopZag : Io := ⟨[dV], [], [], [d64], none⟩
noncomputable def FpZag (d : iopZag.In) : Tr iopZag.Res := .ret (.ret ((spZag d.1.1, ()), ()))
noncomputable abbrev cspZag : List (Nat × Hc) := []
noncomputable def hdpZag : Hd := hdT cspZag
noncomputable def lppZag : Lp := lpT []

noncomputable def bodypZag (a0 : Int) : Option iopZag.Res := some (Out.ret ((spXor IntKind.i64 (IntKind.i64.wrap (spShr IntKind.u64 a0 1)) (IntKind.i64.wrap (0 - IntKind.i64.wrap (spAnd IntKind.u64 a0 1))), ()), ()))
theorem runpZag (a0 : Int) : Io.run tt hdpZag dr lppZag iopZag Go.Proofs.Try.f46 ((a0, ()), ()) = bodypZag a0 := by kernel_rfl
theorem okpZag : HcOk prog 46 (ioHd iopZag FpZag) := by
  refine fn_sound (n := 400) hm (cs := cspZag) HcsOk.nil (lp := lppZag) (fn := Go.Proofs.Try.f46) (by kernel_rfl) (by kernel_rfl) (by kernel_rfl) iopZag (.done (by kernel_rfl)) FpZag ?_
  rintro ⟨⟨(u : Int), ⟨⟩⟩, ⟨⟩⟩ out hw ho
  cases ho
  refine (runpZag u).trans ?_
  have hr := inR_u64.1 (show inR .u64 u from hw.1.1)
  unfold bodypZag
  show _ = some (Out.ret ((spZag u, ()), ()))
  have e1 : spShr .u64 u 1 = u / 2 := by
    show IntKind.wrap .u64 (u.fdiv (2 ^ 1)) = _
    rw [Int.fdiv_eq_ediv_of_nonneg _ (by decide), wrap_u64] <;> omega
  rw [e1, and_one hr.1 (by omega), wrap_i64 (n := u / 2) (by omega) (by omega), wrap_i64 (n := u % 2) (by omega) (by omega), wrap_i64 (n := 0 - u % 2) (by omega) (by omega)]
  unfold spZag
  split
  · rename_i h
    rw [h, show (0 : Int) - 0 = 0 from rfl, xor_zero64 (by omega) (by omega)]
  · rename_i h
    rw [show (0 : Int) - u % 2 = -1 by omega, xor_ones64 (by omega) (by omega)]

end
end Go.Proofs.Ytnppjkijhcampaa.Sym
