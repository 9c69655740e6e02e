/- What all contracts of this program use. -/
import Derived.Test.YtnppjkijhcampaaSymT
import Derived.Test.YtnppjkijhcampaaProg

namespace Go.Proofs.Ytnppjkijhcampaa.Sym
open Go
set_option linter.unusedSimpArgs false
set_option linter.unusedVariables false
noncomputable section

noncomputable abbrev tt : TT := ttOf Go.Proofs.Try.prog 400
noncomputable def dr : Dr := orderD (ttOf Go.Proofs.Try.prog 400)
theorem hm : Go.Proofs.Try.prog.follows .mixedOrders = true := by kernel_rfl
noncomputable abbrev prog : Program := Go.Proofs.Try.prog

noncomputable abbrev bs : Ty := .sl 5 (.int .u8)
noncomputable abbrev dL : Sh := .dat bs false false
noncomputable abbrev dO : Sh := .dat bs false true
noncomputable abbrev dI : Sh := .dat (.int .i64) false false
noncomputable abbrev dB : Sh := .dat .bool false false
noncomputable abbrev dU : Sh := .dat (.int .u8) false false

theorem wrap_id {k : IntKind} {n : Int} (h : inR k n) : k.wrap n = n := by
  unfold inR at h
  cases k <;> simp [IntKind.wrap, IntKind.min, IntKind.max, IntKind.signed, IntKind.bits] at * <;> (try split) <;> omega
theorem wrap_i64 {n : Int} (h0 : -9223372036854775808 ≤ n) (h : n ≤ 9223372036854775807) : IntKind.wrap .i64 n = n := by
  apply wrap_id
  simp [inR, IntKind.min, IntKind.max, IntKind.signed, IntKind.bits]
  omega
theorem maxLen_eq : maxLen = 9223372036854775807 := rfl
/-- Counting up by one. -/
theorem wrap_succ {i n : Nat} (h : i < n) (hn : n ≤ maxLen) : IntKind.wrap .i64 ((i : Int) + 1) = ((i + 1 : Nat) : Int) := by
  rw [wrap_i64] <;> rw [maxLen_eq] at hn <;> omega
theorem bif_true {α : Type} {c : Bool} (h : c = true) (a b : α) : (bif c then a else b) = a := by rw [h]; rfl
theorem bif_false {α : Type} {c : Bool} (h : c = false) (a b : α) : (bif c then a else b) = b := by rw [h]; rfl
theorem getD_lt {α : Type} {xs : List α} {i : Nat} {d : α} (h : i < xs.length) : xs.getD i d = xs[i] := by simp [List.getD, h]

theorem Tr.val_ret {α : Type} (a : α) : (Tr.ret a).val = some a := rfl
theorem Tr.val_no {α : Type} : (Tr.no : Tr α).val = none := rfl
theorem Tr.val_ite {α : Type} (c : Bool) (t e : Tr α) : (Tr.ite c t e).val = if c = true then t.val else e.val := by cases c <;> rfl
theorem Tr.run_ret {α R : Type} (a : α) (K : α → Option R) : (Tr.ret a).run K = K a := rfl
theorem Tr.run_no {α R : Type} (K : α → Option R) : (Tr.no : Tr α).run K = none := rfl
theorem Tr.run_ite {α R : Type} (c : Bool) (t e : Tr α) (K : α → Option R) : (Tr.ite c t e).run K = if c = true then t.run K else e.run K := by cases c <;> rfl
theorem Tr.guard {α : Type} {c : Bool} {t : Tr α} {y : α} (h : (Tr.ite c t .no).val = some y) : c = true ∧ t.val = some y := by
  cases c with
  | true => exact ⟨rfl, h⟩
  | false => cases h
theorem toNat_of {i : Int} (h : 0 ≤ i) : ∃ n : Nat, i = n := ⟨i.toNat, by omega⟩

end
end Go.Proofs.Ytnppjkijhcampaa.Sym
