/- vint: read, PutAll, Put. -/
import Derived.Test.YtnppjkijhcampaaCPzig

namespace Go.Proofs.Ytnppjkijhcampaa.Sym
open Go
set_option linter.unusedSimpArgs false
set_option linter.unusedVariables false
noncomputable section

theorem and_127 {c : Int} (h0 : 0 ≤ c) (h : c ≤ 255) : spAnd .u8 c 127 = c % 128 := by
  show IntKind.wrap .u8 ((BitVec.ofInt 8 c &&& BitVec.ofInt 8 127).toNat : Int) = _
  rw [BitVec.toNat_and, show (BitVec.ofInt 8 127).toNat = 2 ^ 7 - 1 from rfl, BitVec.toNat_ofInt, Nat.and_two_pow_sub_one_eq_mod, wrap_u8] <;> omega
theorem or_add {u d : Int} {i : Nat} (hu : 0 ≤ u) (hu' : u < 2 ^ i) (hd : 0 ≤ d) (hd' : d * 2 ^ i < 18446744073709551616) (hi : i ≤ 63) : spOr .u64 u (spShl .u64 d i) = u + d * 2 ^ i := by
  have e1 : spShl .u64 d i = d * 2 ^ i := by
    show IntKind.wrap .u64 (d * 2 ^ (min (i : Int).toNat 64)) = _
    rw [show min (i : Int).toNat 64 = i by omega, wrap_u64 (Int.mul_nonneg hd (Int.le_of_lt (Int.pow_pos (by decide)))) hd']
  rw [e1]
  obtain ⟨u, rfl⟩ := toNat_of hu
  obtain ⟨d, rfl⟩ := toNat_of hd
  have h2 : (2 : Int) ^ i = ((2 ^ i : Nat) : Int) := by rw [Int.natCast_pow]; rfl
  have hp : (d : Int) * 2 ^ i = ((2 ^ i * d : Nat) : Int) := by rw [h2, Nat.mul_comm, Int.natCast_mul]
  rw [hp] at hd' ⊢
  rw [h2] at hu'
  have h3 : u < 2 ^ i := Int.ofNat_lt.1 hu'
  have h4 : 2 ^ i * d < 18446744073709551616 := by omega
  have h5 : 2 ^ i * d + u < 18446744073709551616 := by
    obtain ⟨q, hq⟩ : 2 ^ i ∣ 18446744073709551616 := (Nat.pow_dvd_pow 2 (show i ≤ 64 by omega))
    rw [hq] at h4 ⊢
    have h6 : d < q := Nat.lt_of_mul_lt_mul_left h4
    have h7 : 2 ^ i * (d + 1) ≤ 2 ^ i * q := Nat.mul_le_mul_left _ h6
    rw [Nat.mul_add] at h7
    omega
  have e4 := Nat.two_pow_add_eq_or_of_lt h3 d
  generalize 2 ^ i * d = k at h4 h5 e4 ⊢
  show IntKind.wrap .u64 ((BitVec.ofInt 64 (u : Int) ||| BitVec.ofInt 64 (k : Int)).toNat : Int) = _
  have e2 : (BitVec.ofInt 64 (u : Int)).toNat = u := by rw [BitVec.toNat_ofInt]; omega
  have e3 : (BitVec.ofInt 64 (k : Int)).toNat = k := by rw [BitVec.toNat_ofInt]; omega
  rw [BitVec.toNat_or, e2, e3, Nat.or_comm, ← e4, wrap_u64] <;> omega

end
end Go.Proofs.Ytnppjkijhcampaa.Sym
