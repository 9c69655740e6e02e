/- leatref04: one character. -/
import Derived.Lib.SliceRun
import Derived.Test.YtnppjkijhcampaaQ3

namespace Go.Proofs.Ytnppjkijhcampaa.Sym
open Go
set_option linter.unusedSimpArgs false
set_option linter.unusedVariables false
noncomputable section

noncomputable def spLoOf (c : Int) : Int := if c = 240 then 144 else if c = 224 then 160 else 128
noncomputable def spHiOf (c : Int) : Int := if c = 244 then 143 else if c = 237 then 159 else 191
/-- The length of the well-formed character at a place, 0 if there is none. -/
noncomputable def spChar (b : List Int) (p : Int) : Int :=
  if p < 0 ∨ (b.length : Int) ≤ p then 0
  else if b.getD p.toNat 0 < 128 then 1
  else if b.getD p.toNat 0 < 194 ∨ 244 < b.getD p.toNat 0 ∨ spIn b (p + 1) (spLoOf (b.getD p.toNat 0)) (spHiOf (b.getD p.toNat 0)) = false then 0
  else if b.getD p.toNat 0 < 224 then 2
  else if spIn b (p + 2) 128 191 = false then 0
  else if b.getD p.toNat 0 < 240 then 3
  else if spIn b (p + 3) 128 191 = false then 0
  else 4

/-! ### leat/leatref04.Char -/
noncomputable abbrev iorChar : Io := ⟨[dL, dI], [], [], [dI], none⟩
noncomputable def FrChar (d : iorChar.In) : Tr iorChar.Res := .ret (.ret ((spChar d.1.1 d.1.2.1, ()), ()))
noncomputable abbrev csrChar : List (Nat × Hc) := [(69, ioHd iorwithin Frwithin)]
noncomputable def hdrChar : Hd := hdT csrChar
noncomputable def lprChar : Lp := lpT []

noncomputable def bodyrChar (a0 : List Int) (a1 : Int) : Option iorChar.Res := bif decide (a1 < 0) then some (Out.ret ((0, ()), ())) else bif decide ((↑a0.length : Int) ≤ a1) then some (Out.ret ((0, ()), ())) else bif decide (0 ≤ a1) && decide (a1 < (↑a0.length : Int)) then bif decide (a0.getD a1.toNat 0 < 128) then some (Out.ret ((1, ()), ())) else bif a0.getD a1.toNat 0 == 224 then bif a0.getD a1.toNat 0 == 237 then bif a0.getD a1.toNat 0 == 240 then bif a0.getD a1.toNat 0 == 244 then bif decide (a0.getD a1.toNat 0 < 194) then some (Out.ret ((0, ()), ())) else bif decide (244 < a0.getD a1.toNat 0) then some (Out.ret ((0, ()), ())) else bif decide (0 ≤ IntKind.i64.wrap (a1 + 1)) then bif !spIn a0 (IntKind.i64.wrap (a1 + 1)) 144 143 then some (Out.ret ((0, ()), ())) else bif decide (a0.getD a1.toNat 0 < 224) then some (Out.ret ((2, ()), ())) else bif decide (0 ≤ IntKind.i64.wrap (a1 + 2)) then bif !spIn a0 (IntKind.i64.wrap (a1 + 2)) 128 191 then some (Out.ret ((0, ()), ())) else bif decide (a0.getD a1.toNat 0 < 240) then some (Out.ret ((3, ()), ())) else bif decide (0 ≤ IntKind.i64.wrap (a1 + 3)) then bif !spIn a0 (IntKind.i64.wrap (a1 + 3)) 128 191 then some (Out.ret ((0, ()), ())) else some (Out.ret ((4, ()), ())) else none else none else none else bif decide (a0.getD a1.toNat 0 < 194) then some (Out.ret ((0, ()), ())) else bif decide (244 < a0.getD a1.toNat 0) then some (Out.ret ((0, ()), ())) else bif decide (0 ≤ IntKind.i64.wrap (a1 + 1)) then bif !spIn a0 (IntKind.i64.wrap (a1 + 1)) 144 159 then some (Out.ret ((0, ()), ())) else bif decide (a0.getD a1.toNat 0 < 224) then some (Out.ret ((2, ()), ())) else bif decide (0 ≤ IntKind.i64.wrap (a1 + 2)) then bif !spIn a0 (IntKind.i64.wrap (a1 + 2)) 128 191 then some (Out.ret ((0, ()), ())) else bif decide (a0.getD a1.toNat 0 < 240) then some (Out.ret ((3, ()), ())) else bif decide (0 ≤ IntKind.i64.wrap (a1 + 3)) then bif !spIn a0 (IntKind.i64.wrap (a1 + 3)) 128 191 then some (Out.ret ((0, ()), ())) else some (Out.ret ((4, ()), ())) else none else none else none else bif a0.getD a1.toNat 0 == 244 then bif decide (a0.getD a1.toNat 0 < 194) then some (Out.ret ((0, ()), ())) else bif decide (244 < a0.getD a1.toNat 0) then some (Out.ret ((0, ()), ())) else bif decide (0 ≤ IntKind.i64.wrap (a1 + 1)) then bif !spIn a0 (IntKind.i64.wrap (a1 + 1)) 160 143 then some (Out.ret ((0, ()), ())) else bif decide (a0.getD a1.toNat 0 < 224) then some (Out.ret ((2, ()), ())) else bif decide (0 ≤ IntKind.i64.wrap (a1 + 2)) then bif !spIn a0 (IntKind.i64.wrap (a1 + 2)) 128 191 then some (Out.ret ((0, ()), ())) else bif decide (a0.getD a1.toNat 0 < 240) then some (Out.ret ((3, ()), ())) else bif decide (0 ≤ IntKind.i64.wrap (a1 + 3)) then bif !spIn a0 (IntKind.i64.wrap (a1 + 3)) 128 191 then some (Out.ret ((0, ()), ())) else some (Out.ret ((4, ()), ())) else none else none else none else bif decide (a0.getD a1.toNat 0 < 194) then some (Out.ret ((0, ()), ())) else bif decide (244 < a0.getD a1.toNat 0) then some (Out.ret ((0, ()), ())) else bif decide (0 ≤ IntKind.i64.wrap (a1 + 1)) then bif !spIn a0 (IntKind.i64.wrap (a1 + 1)) 160 159 then some (Out.ret ((0, ()), ())) else bif decide (a0.getD a1.toNat 0 < 224) then some (Out.ret ((2, ()), ())) else bif decide (0 ≤ IntKind.i64.wrap (a1 + 2)) then bif !spIn a0 (IntKind.i64.wrap (a1 + 2)) 128 191 then some (Out.ret ((0, ()), ())) else bif decide (a0.getD a1.toNat 0 < 240) then some (Out.ret ((3, ()), ())) else bif decide (0 ≤ IntKind.i64.wrap (a1 + 3)) then bif !spIn a0 (IntKind.i64.wrap (a1 + 3)) 128 191 then some (Out.ret ((0, ()), ())) else some (Out.ret ((4, ()), ())) else none else none else none else bif a0.getD a1.toNat 0 == 240 then bif a0.getD a1.toNat 0 == 244 then bif decide (a0.getD a1.toNat 0 < 194) then some (Out.ret ((0, ()), ())) else bif decide (244 < a0.getD a1.toNat 0) then some (Out.ret ((0, ()), ())) else bif decide (0 ≤ IntKind.i64.wrap (a1 + 1)) then bif !spIn a0 (IntKind.i64.wrap (a1 + 1)) 144 143 then some (Out.ret ((0, ()), ())) else bif decide (a0.getD a1.toNat 0 < 224) then some (Out.ret ((2, ()), ())) else bif decide (0 ≤ IntKind.i64.wrap (a1 + 2)) then bif !spIn a0 (IntKind.i64.wrap (a1 + 2)) 128 191 then some (Out.ret ((0, ()), ())) else bif decide (a0.getD a1.toNat 0 < 240) then some (Out.ret ((3, ()), ())) else bif decide (0 ≤ IntKind.i64.wrap (a1 + 3)) then bif !spIn a0 (IntKind.i64.wrap (a1 + 3)) 128 191 then some (Out.ret ((0, ()), ())) else some (Out.ret ((4, ()), ())) else none else none else none else bif decide (a0.getD a1.toNat 0 < 194) then some (Out.ret ((0, ()), ())) else bif decide (244 < a0.getD a1.toNat 0) then some (Out.ret ((0, ()), ())) else bif decide (0 ≤ IntKind.i64.wrap (a1 + 1)) then bif !spIn a0 (IntKind.i64.wrap (a1 + 1)) 144 191 then some (Out.ret ((0, ()), ())) else bif decide (a0.getD a1.toNat 0 < 224) then some (Out.ret ((2, ()), ())) else bif decide (0 ≤ IntKind.i64.wrap (a1 + 2)) then bif !spIn a0 (IntKind.i64.wrap (a1 + 2)) 128 191 then some (Out.ret ((0, ()), ())) else bif decide (a0.getD a1.toNat 0 < 240) then some (Out.ret ((3, ()), ())) else bif decide (0 ≤ IntKind.i64.wrap (a1 + 3)) then bif !spIn a0 (IntKind.i64.wrap (a1 + 3)) 128 191 then some (Out.ret ((0, ()), ())) else some (Out.ret ((4, ()), ())) else none else none else none else bif a0.getD a1.toNat 0 == 244 then bif decide (a0.getD a1.toNat 0 < 194) then some (Out.ret ((0, ()), ())) else bif decide (244 < a0.getD a1.toNat 0) then some (Out.ret ((0, ()), ())) else bif decide (0 ≤ IntKind.i64.wrap (a1 + 1)) then bif !spIn a0 (IntKind.i64.wrap (a1 + 1)) 160 143 then some (Out.ret ((0, ()), ())) else bif decide (a0.getD a1.toNat 0 < 224) then some (Out.ret ((2, ()), ())) else bif decide (0 ≤ IntKind.i64.wrap (a1 + 2)) then bif !spIn a0 (IntKind.i64.wrap (a1 + 2)) 128 191 then some (Out.ret ((0, ()), ())) else bif decide (a0.getD a1.toNat 0 < 240) then some (Out.ret ((3, ()), ())) else bif decide (0 ≤ IntKind.i64.wrap (a1 + 3)) then bif !spIn a0 (IntKind.i64.wrap (a1 + 3)) 128 191 then some (Out.ret ((0, ()), ())) else some (Out.ret ((4, ()), ())) else none else none else none else bif decide (a0.getD a1.toNat 0 < 194) then some (Out.ret ((0, ()), ())) else bif decide (244 < a0.getD a1.toNat 0) then some (Out.ret ((0, ()), ())) else bif decide (0 ≤ IntKind.i64.wrap (a1 + 1)) then bif !spIn a0 (IntKind.i64.wrap (a1 + 1)) 160 191 then some (Out.ret ((0, ()), ())) else bif decide (a0.getD a1.toNat 0 < 224) then some (Out.ret ((2, ()), ())) else bif decide (0 ≤ IntKind.i64.wrap (a1 + 2)) then bif !spIn a0 (IntKind.i64.wrap (a1 + 2)) 128 191 then some (Out.ret ((0, ()), ())) else bif decide (a0.getD a1.toNat 0 < 240) then some (Out.ret ((3, ()), ())) else bif decide (0 ≤ IntKind.i64.wrap (a1 + 3)) then bif !spIn a0 (IntKind.i64.wrap (a1 + 3)) 128 191 then some (Out.ret ((0, ()), ())) else some (Out.ret ((4, ()), ())) else none else none else none else bif a0.getD a1.toNat 0 == 237 then bif a0.getD a1.toNat 0 == 240 then bif a0.getD a1.toNat 0 == 244 then bif decide (a0.getD a1.toNat 0 < 194) then some (Out.ret ((0, ()), ())) else bif decide (244 < a0.getD a1.toNat 0) then some (Out.ret ((0, ()), ())) else bif decide (0 ≤ IntKind.i64.wrap (a1 + 1)) then bif !spIn a0 (IntKind.i64.wrap (a1 + 1)) 144 143 then some (Out.ret ((0, ()), ())) else bif decide (a0.getD a1.toNat 0 < 224) then some (Out.ret ((2, ()), ())) else bif decide (0 ≤ IntKind.i64.wrap (a1 + 2)) then bif !spIn a0 (IntKind.i64.wrap (a1 + 2)) 128 191 then some (Out.ret ((0, ()), ())) else bif decide (a0.getD a1.toNat 0 < 240) then some (Out.ret ((3, ()), ())) else bif decide (0 ≤ IntKind.i64.wrap (a1 + 3)) then bif !spIn a0 (IntKind.i64.wrap (a1 + 3)) 128 191 then some (Out.ret ((0, ()), ())) else some (Out.ret ((4, ()), ())) else none else none else none else bif decide (a0.getD a1.toNat 0 < 194) then some (Out.ret ((0, ()), ())) else bif decide (244 < a0.getD a1.toNat 0) then some (Out.ret ((0, ()), ())) else bif decide (0 ≤ IntKind.i64.wrap (a1 + 1)) then bif !spIn a0 (IntKind.i64.wrap (a1 + 1)) 144 159 then some (Out.ret ((0, ()), ())) else bif decide (a0.getD a1.toNat 0 < 224) then some (Out.ret ((2, ()), ())) else bif decide (0 ≤ IntKind.i64.wrap (a1 + 2)) then bif !spIn a0 (IntKind.i64.wrap (a1 + 2)) 128 191 then some (Out.ret ((0, ()), ())) else bif decide (a0.getD a1.toNat 0 < 240) then some (Out.ret ((3, ()), ())) else bif decide (0 ≤ IntKind.i64.wrap (a1 + 3)) then bif !spIn a0 (IntKind.i64.wrap (a1 + 3)) 128 191 then some (Out.ret ((0, ()), ())) else some (Out.ret ((4, ()), ())) else none else none else none else bif a0.getD a1.toNat 0 == 244 then bif decide (a0.getD a1.toNat 0 < 194) then some (Out.ret ((0, ()), ())) else bif decide (244 < a0.getD a1.toNat 0) then some (Out.ret ((0, ()), ())) else bif decide (0 ≤ IntKind.i64.wrap (a1 + 1)) then bif !spIn a0 (IntKind.i64.wrap (a1 + 1)) 128 143 then some (Out.ret ((0, ()), ())) else bif decide (a0.getD a1.toNat 0 < 224) then some (Out.ret ((2, ()), ())) else bif decide (0 ≤ IntKind.i64.wrap (a1 + 2)) then bif !spIn a0 (IntKind.i64.wrap (a1 + 2)) 128 191 then some (Out.ret ((0, ()), ())) else bif decide (a0.getD a1.toNat 0 < 240) then some (Out.ret ((3, ()), ())) else bif decide (0 ≤ IntKind.i64.wrap (a1 + 3)) then bif !spIn a0 (IntKind.i64.wrap (a1 + 3)) 128 191 then some (Out.ret ((0, ()), ())) else some (Out.ret ((4, ()), ())) else none else none else none else bif decide (a0.getD a1.toNat 0 < 194) then some (Out.ret ((0, ()), ())) else bif decide (244 < a0.getD a1.toNat 0) then some (Out.ret ((0, ()), ())) else bif decide (0 ≤ IntKind.i64.wrap (a1 + 1)) then bif !spIn a0 (IntKind.i64.wrap (a1 + 1)) 128 159 then some (Out.ret ((0, ()), ())) else bif decide (a0.getD a1.toNat 0 < 224) then some (Out.ret ((2, ()), ())) else bif decide (0 ≤ IntKind.i64.wrap (a1 + 2)) then bif !spIn a0 (IntKind.i64.wrap (a1 + 2)) 128 191 then some (Out.ret ((0, ()), ())) else bif decide (a0.getD a1.toNat 0 < 240) then some (Out.ret ((3, ()), ())) else bif decide (0 ≤ IntKind.i64.wrap (a1 + 3)) then bif !spIn a0 (IntKind.i64.wrap (a1 + 3)) 128 191 then some (Out.ret ((0, ()), ())) else some (Out.ret ((4, ()), ())) else none else none else none else bif a0.getD a1.toNat 0 == 240 then bif a0.getD a1.toNat 0 == 244 then bif decide (a0.getD a1.toNat 0 < 194) then some (Out.ret ((0, ()), ())) else bif decide (244 < a0.getD a1.toNat 0) then some (Out.ret ((0, ()), ())) else bif decide (0 ≤ IntKind.i64.wrap (a1 + 1)) then bif !spIn a0 (IntKind.i64.wrap (a1 + 1)) 144 143 then some (Out.ret ((0, ()), ())) else bif decide (a0.getD a1.toNat 0 < 224) then some (Out.ret ((2, ()), ())) else bif decide (0 ≤ IntKind.i64.wrap (a1 + 2)) then bif !spIn a0 (IntKind.i64.wrap (a1 + 2)) 128 191 then some (Out.ret ((0, ()), ())) else bif decide (a0.getD a1.toNat 0 < 240) then some (Out.ret ((3, ()), ())) else bif decide (0 ≤ IntKind.i64.wrap (a1 + 3)) then bif !spIn a0 (IntKind.i64.wrap (a1 + 3)) 128 191 then some (Out.ret ((0, ()), ())) else some (Out.ret ((4, ()), ())) else none else none else none else bif decide (a0.getD a1.toNat 0 < 194) then some (Out.ret ((0, ()), ())) else bif decide (244 < a0.getD a1.toNat 0) then some (Out.ret ((0, ()), ())) else bif decide (0 ≤ IntKind.i64.wrap (a1 + 1)) then bif !spIn a0 (IntKind.i64.wrap (a1 + 1)) 144 191 then some (Out.ret ((0, ()), ())) else bif decide (a0.getD a1.toNat 0 < 224) then some (Out.ret ((2, ()), ())) else bif decide (0 ≤ IntKind.i64.wrap (a1 + 2)) then bif !spIn a0 (IntKind.i64.wrap (a1 + 2)) 128 191 then some (Out.ret ((0, ()), ())) else bif decide (a0.getD a1.toNat 0 < 240) then some (Out.ret ((3, ()), ())) else bif decide (0 ≤ IntKind.i64.wrap (a1 + 3)) then bif !spIn a0 (IntKind.i64.wrap (a1 + 3)) 128 191 then some (Out.ret ((0, ()), ())) else some (Out.ret ((4, ()), ())) else none else none else none else bif a0.getD a1.toNat 0 == 244 then bif decide (a0.getD a1.toNat 0 < 194) then some (Out.ret ((0, ()), ())) else bif decide (244 < a0.getD a1.toNat 0) then some (Out.ret ((0, ()), ())) else bif decide (0 ≤ IntKind.i64.wrap (a1 + 1)) then bif !spIn a0 (IntKind.i64.wrap (a1 + 1)) 128 143 then some (Out.ret ((0, ()), ())) else bif decide (a0.getD a1.toNat 0 < 224) then some (Out.ret ((2, ()), ())) else bif decide (0 ≤ IntKind.i64.wrap (a1 + 2)) then bif !spIn a0 (IntKind.i64.wrap (a1 + 2)) 128 191 then some (Out.ret ((0, ()), ())) else bif decide (a0.getD a1.toNat 0 < 240) then some (Out.ret ((3, ()), ())) else bif decide (0 ≤ IntKind.i64.wrap (a1 + 3)) then bif !spIn a0 (IntKind.i64.wrap (a1 + 3)) 128 191 then some (Out.ret ((0, ()), ())) else some (Out.ret ((4, ()), ())) else none else none else none else bif decide (a0.getD a1.toNat 0 < 194) then some (Out.ret ((0, ()), ())) else bif decide (244 < a0.getD a1.toNat 0) then some (Out.ret ((0, ()), ())) else bif decide (0 ≤ IntKind.i64.wrap (a1 + 1)) then bif !spIn a0 (IntKind.i64.wrap (a1 + 1)) 128 191 then some (Out.ret ((0, ()), ())) else bif decide (a0.getD a1.toNat 0 < 224) then some (Out.ret ((2, ()), ())) else bif decide (0 ≤ IntKind.i64.wrap (a1 + 2)) then bif !spIn a0 (IntKind.i64.wrap (a1 + 2)) 128 191 then some (Out.ret ((0, ()), ())) else bif decide (a0.getD a1.toNat 0 < 240) then some (Out.ret ((3, ()), ())) else bif decide (0 ≤ IntKind.i64.wrap (a1 + 3)) then bif !spIn a0 (IntKind.i64.wrap (a1 + 3)) 128 191 then some (Out.ret ((0, ()), ())) else some (Out.ret ((4, ()), ())) else none else none else none else none
theorem runrChar (a0 : List Int) (a1 : Int) : Io.run tt hdrChar dr lprChar iorChar Go.Proofs.Try.f62 ((a0, a1, ()), ()) = bodyrChar a0 a1 := by kernel_rfl
theorem spIn_lt {b : List Int} {p lo hi : Int} (h : spIn b p lo hi = true) : p < (b.length : Int) := by
  simp only [spIn, Bool.and_eq_true, decide_eq_true_eq] at h
  exact h.1
noncomputable def chTail (b : List Int) (p c lo hi : Int) : Option iorChar.Res :=
  bif decide (c < 194) then some (Out.ret ((0, ()), ())) else bif decide (244 < c) then some (Out.ret ((0, ()), ())) else bif decide (0 ≤ p + 1) then bif !spIn b (p + 1) lo hi then some (Out.ret ((0, ()), ()))
    else bif decide (c < 224) then some (Out.ret ((2, ()), ())) else bif decide (0 ≤ IntKind.i64.wrap (p + 2)) then bif !spIn b (IntKind.i64.wrap (p + 2)) 128 191 then some (Out.ret ((0, ()), ()))
    else bif decide (c < 240) then some (Out.ret ((3, ()), ())) else bif decide (0 ≤ IntKind.i64.wrap (p + 3)) then bif !spIn b (IntKind.i64.wrap (p + 3)) 128 191 then some (Out.ret ((0, ()), ())) else some (Out.ret ((4, ()), ())) else none else none else none
theorem chTail_eq {b : List Int} {p c lo hi : Int} (hp : 0 ≤ p) (hb : (b.length : Int) ≤ 9223372036854775807) : chTail b p c lo hi = some (Out.ret ((if c < 194 ∨ 244 < c ∨ spIn b (p + 1) lo hi = false then 0 else if c < 224 then 2 else if spIn b (p + 2) 128 191 = false then 0 else if c < 240 then 3 else if spIn b (p + 3) 128 191 = false then 0 else 4, ()), ())) := by
  unfold chTail
  by_cases d2 : c < 194
  · simp [d2]
  by_cases d3 : 244 < c
  · simp [d2, d3]
  rw [bif_false (by simpa using d2), bif_false (by simpa using d3), bif_true (by simp; omega)]
  cases a1 : spIn b (p + 1) lo hi with
  | false => simp
  | true =>
    have h1 := spIn_lt a1
    have e2 : IntKind.i64.wrap (p + 2) = p + 2 := by rw [wrap_i64] <;> omega
    rw [e2]
    by_cases d4 : c < 224
    · simp [d2, d3, d4]
    rw [bif_false (by rfl), bif_false (by simpa using d4), bif_true (by simp; omega)]
    cases a2 : spIn b (p + 2) 128 191 with
    | false => simp [d2, d3, d4]
    | true =>
      have h2 := spIn_lt a2
      have e3 : IntKind.i64.wrap (p + 3) = p + 3 := by rw [wrap_i64] <;> omega
      rw [e3]
      by_cases d5 : c < 240
      · simp [d2, d3, d4, d5]
      rw [bif_false (by rfl), bif_false (by simpa using d5), bif_true (by simp; omega)]
      cases a3 : spIn b (p + 3) 128 191 <;> simp [d2, d3, d4, d5]
theorem okrChar : HcOk prog 62 (ioHd iorChar FrChar) := by
  refine fn_sound (n := 400) hm (cs := csrChar) (.cons okrwithin .nil) (lp := lprChar) (fn := Go.Proofs.Try.f62) (by kernel_rfl) (by kernel_rfl) (by kernel_rfl) iorChar (.done (by kernel_rfl)) FrChar ?_
  rintro ⟨⟨(b : List Int), (p : Int), ⟨⟩⟩, ⟨⟩⟩ out hw ho
  cases ho
  refine (runrChar b p).trans ?_
  have hb : b.length ≤ maxLen := hw.1.1.1
  rw [maxLen_eq] at hb
  unfold bodyrChar
  show _ = some (Out.ret ((spChar b p, ()), ()))
  unfold spChar
  by_cases h1 : p < 0
  · simp [h1]
  by_cases h2 : (b.length : Int) ≤ p
  · simp [h1, h2]
  have e1 : IntKind.i64.wrap (p + 1) = p + 1 := by rw [wrap_i64] <;> omega
  rw [e1]
  have h3 : 0 ≤ p := by omega
  have h4 : p < (b.length : Int) := by omega
  have h5 : (0 : Int) ≤ p + 1 := by omega
  have h6 : (0 : Int) ≤ p + 2 := by omega
  have h7 : (0 : Int) ≤ p + 3 := by omega
  generalize b.getD p.toNat 0 = c
  rw [bif_false (by simpa using h1), bif_false (by simpa using h2), bif_true (by simp; omega), if_neg (by omega)]
  by_cases d1 : c < 128
  · rw [bif_true (by simpa using d1), if_pos d1]
  rw [bif_false (by simpa using d1), if_neg d1]
  have tail : ∀ lo hi, spLoOf c = lo → spHiOf c = hi → chTail b p c lo hi = some (Out.ret ((if c < 194 ∨ 244 < c ∨ spIn b (p + 1) (spLoOf c) (spHiOf c) = false then 0 else if c < 224 then 2 else if spIn b (p + 2) 128 191 = false then 0 else if c < 240 then 3 else if spIn b (p + 3) 128 191 = false then 0 else 4, ()), ())) := by
    intro lo hi e1 e2
    rw [e1, e2]
    exact chTail_eq h3 (by omega)
  have no : ∀ x : Int, c ≠ x → (c == x) = false := fun x h => by simpa using h
  have ye : ∀ x : Int, c = x → (c == x) = true := fun x h => by simpa using h
  by_cases c1 : c = 224
  · rw [bif_true (ye _ c1), bif_false (no 237 (by omega)), bif_false (no 240 (by omega)), bif_false (no 244 (by omega))]
    exact tail 160 191 (by simp [spLoOf, c1]) (by simp [spHiOf, c1])
  rw [bif_false (no _ c1)]
  by_cases c2 : c = 237
  · rw [bif_true (ye _ c2), bif_false (no 240 (by omega)), bif_false (no 244 (by omega))]
    exact tail 128 159 (by simp [spLoOf, c2]) (by simp [spHiOf, c2])
  rw [bif_false (no _ c2)]
  by_cases c3 : c = 240
  · rw [bif_true (ye _ c3), bif_false (no 244 (by omega))]
    exact tail 144 191 (by simp [spLoOf, c3]) (by simp [spHiOf, c3])
  rw [bif_false (no _ c3)]
  by_cases c4 : c = 244
  · rw [bif_true (ye _ c4)]
    exact tail 128 143 (by simp [spLoOf, c4]) (by simp [spHiOf, c4])
  rw [bif_false (no _ c4)]
  exact tail 128 191 (by simp [spLoOf, c1, c3]) (by simp [spHiOf, c2, c4])

end
end Go.Proofs.Ytnppjkijhcampaa.Sym

/- leatref04.Utf. -/
namespace Go.Proofs.Ytnppjkijhcampaa.Sym
open Go
set_option linter.unusedSimpArgs false
set_option linter.unusedVariables false
noncomputable section

/-- The first place at which no character begins, and whether that is the end. -/
noncomputable def spUtfN (b : List Int) : Nat → Int → Int × Bool
  | 0, p => (p, true)
  | n + 1, p => if (b.length : Int) ≤ p then (p, true) else if spChar b p = 0 then (p, false) else spUtfN b n (p + spChar b p)
noncomputable def spUtf (b : List Int) : Int × Bool := spUtfN b (b.length + 1) 0

theorem spChar_le {b : List Int} {p : Int} (h0 : 0 ≤ p) (h : p < (b.length : Int)) : 0 ≤ spChar b p ∧ p + spChar b p ≤ b.length := by
  unfold spChar
  rw [if_neg (by omega)]
  split
  · omega
  split
  · omega
  rename_i h1
  have a1 : spIn b (p + 1) (spLoOf (b.getD p.toNat 0)) (spHiOf (b.getD p.toNat 0)) = true := by
    cases hx : spIn b (p + 1) (spLoOf (b.getD p.toNat 0)) (spHiOf (b.getD p.toNat 0)) with
    | true => rfl
    | false => exact absurd (.inr (.inr hx)) h1
  have h2 := spIn_lt a1
  split
  · omega
  split
  · omega
  rename_i h3
  have h4 := spIn_lt (show spIn b (p + 2) 128 191 = true by simpa using h3)
  split
  · omega
  split
  · omega
  rename_i h5
  have h6 := spIn_lt (show spIn b (p + 3) 128 191 = true by simpa using h5)
  omega

/-! ### leat/leatref04.Utf -/
noncomputable abbrev iorUtf : Io := ⟨[dL], [], [], [dI, dB], none⟩
noncomputable def FrUtf (d : iorUtf.In) : Tr iorUtf.Res := .ret (.ret (((spUtf d.1.1).1, (spUtf d.1.1).2, ()), ()))
noncomputable abbrev csrUtf : List (Nat × Hc) := [(62, ioHd iorChar FrChar)]
noncomputable def hdrUtf : Hd := hdT csrUtf
noncomputable abbrev lorUtf_3 : Lo := ⟨⟨[.one (.hol (.sl 5 (Ty.int IntKind.u8))), .any, .any, .any, .one (.hol (.int IntKind.i64)), .any, .any, .any, .any, .any, .any, .any, .any, .any, .any, .any, .any, .any, .any, .any], []⟩, [(.ret, ⟨[.any, .any, .one (.hol (.int IntKind.i64)), .one (.hol .bool), .any, .any, .any, .any, .any, .any, .any, .any, .any, .any, .any, .any, .any, .any, .any, .any], []⟩), (.exit 0, ⟨[.any, .any, .any, .any, .one (.hol (.int IntKind.i64)), .any, .any, .any, .any, .any, .any, .any, .any, .any, .any, .any, .any, .any, .any, .any], []⟩)]⟩
-- FrUtf_3 : lorUtf_3.st.den → Tr (DenX lorUtf_3.xs) | ((h1, (h2, ())), ())
noncomputable def FrUtf_3 (d : lorUtf_3.st.den) : Tr (DenX lorUtf_3.xs) :=
  .ite (decide (d.1.2.1 = (0 : Int))) (.ite (spUtf d.1.1).2 (.ret (.pan (.ret ((), (((spUtf d.1.1).1, ()), ()))))) (.ret (.ret ((), (((spUtf d.1.1).1, (false, ())), ()))))) .no
noncomputable def lprUtf : Lp := lpT [(3, loHd lorUtf_3 FrUtf_3)]
noncomputable def steprUtf_3 {R : Type} (h1 : List Int) (h2 : Int) (next : List Int → Int → Option R) (out : DenX lorUtf_3.xs → Option R) : Option R := bif decide (h2 < (↑h1.length : Int)) then bif spChar h1 h2 == 0 then out (.ret ((), ((h2, (false, ())), ()))) else next (h1) (IntKind.i64.wrap (h2 + spChar h1 h2)) else out (.pan (.ret ((), ((h2, ()), ()))))
noncomputable def itrUtf_3 (n : Nat) (h1 : List Int) (h2 : Int) : Option (DenX lorUtf_3.xs) := lpN tt hdrUtf dr lprUtf 0 Go.Proofs.Try.f41 (topL Go.Proofs.Try.f41 0) n (lorUtf_3.st.mk' ((h1, (h2, ())), ())) (decX lorUtf_3.xs)
theorem slrUtf_3 (n : Nat) (h1 : List Int) (h2 : Int) : itrUtf_3 (n + 1) h1 h2 = steprUtf_3 h1 h2 (itrUtf_3 n) some := by kernel_rfl
theorem looprUtf (b : List Int) (hb : (b.length : Int) ≤ 9223372036854775807) : ∀ (k : Nat) (p : Int), 0 ≤ p → p ≤ b.length → (b.length : Int) < p + k →
    itrUtf_3 k b p = if (spUtfN b k p).2 = true then some (.pan (.ret ((), (((spUtfN b k p).1, ()), ())))) else some (.ret ((), (((spUtfN b k p).1, (false, ())), ()))) := by
  intro k
  induction k with
  | zero => intro p h0 h1 h2; omega
  | succ k ih =>
    intro p h0 h1 h2
    rw [slrUtf_3]
    unfold steprUtf_3
    by_cases h3 : (b.length : Int) ≤ p
    · have h4 : ¬ p < (b.length : Int) := by omega
      have hS : spUtfN b (k + 1) p = (p, true) := by simp [spUtfN, h3]
      simp [hS, h4]
    · have h4 : p < (b.length : Int) := by omega
      obtain ⟨h5, h6⟩ := spChar_le h0 h4
      rw [bif_true (by simpa using h4)]
      by_cases h7 : spChar b p = 0
      · have hS : spUtfN b (k + 1) p = (p, false) := by simp [spUtfN, h3, h7]
        simp [hS, h7]
      · have hS : spUtfN b (k + 1) p = spUtfN b k (p + spChar b p) := by simp [spUtfN, h3, h7]
        simp only [hS]
        rw [bif_false (by simpa using h7), wrap_i64 (by omega) (by omega), ih _ (by omega) h6 (by omega)]
noncomputable def bodyrUtf (a0 : List Int) : Option iorUtf.Res := (FrUtf_3 ((a0, (0, ())), ())).run fun y => match y with | .ret ((), ((x8, x9, ()), ())) => (some (Out.ret ((x8, x9, ()), ()))) | .pan (.ret ((), ((x10, ()), ()))) => (some (Out.ret ((x10, true, ()), ())))
theorem runrUtf (a0 : List Int) : Io.run tt hdrUtf dr lprUtf iorUtf Go.Proofs.Try.f41 ((a0, ()), ()) = bodyrUtf a0 := by kernel_rfl
theorem okrUtf : HcOk prog 41 (ioHd iorUtf FrUtf) := by
  refine fn_sound (n := 400) hm (cs := csrUtf) (.cons okrChar .nil) (lp := lprUtf) (fn := Go.Proofs.Try.f41) (by kernel_rfl) (by kernel_rfl) (by kernel_rfl) iorUtf
    (.step (h0 := loHd lorUtf_3 FrUtf_3) (by kernel_rfl) (loop_sound (n := 400) hm (cs := csrUtf) (.cons okrChar .nil) (lp := lprUtf) (fn := Go.Proofs.Try.f41) (.done (by kernel_rfl)) lorUtf_3 FrUtf_3 ?_) (.done (by kernel_rfl))) FrUtf ?_
  · rintro ⟨⟨(b : List Int), (p : Int), ⟨⟩⟩, ⟨⟩⟩ y hw hy
    obtain ⟨hg, hy⟩ := Tr.guard hy
    have hg : p = 0 := by simpa using hg
    subst hg
    have hb : b.length ≤ maxLen := hw.1.1.1
    rw [maxLen_eq] at hb
    refine ⟨b.length + 1, (looprUtf b (by omega) (b.length + 1) 0 (by omega) (by omega) (by omega)).trans ?_⟩
    rw [← hy]
    simp only [Tr.val_ite, Tr.val_ret]
    rfl
  · rintro ⟨⟨(b : List Int), ⟨⟩⟩, ⟨⟩⟩ out hw ho
    cases ho
    refine (runrUtf b).trans ?_
    unfold bodyrUtf FrUtf_3
    show _ = some (Out.ret (((spUtf b).1, (spUtf b).2, ()), ()))
    simp only [Tr.run_ite, Tr.run_ret]
    generalize spUtf b = r
    obtain ⟨r1, r2⟩ := r
    cases r2 <;> simp

end
end Go.Proofs.Ytnppjkijhcampaa.Sym

/- leatref07: rows written. -/
namespace Go.Proofs.Ytnppjkijhcampaa.Sym
open Go
set_option linter.unusedSimpArgs false
set_option linter.unusedVariables false
noncomputable section

/-- A blob: null, and its bytes. A header: its key, its value. A row: times, offset, key, value, headers. -/
noncomputable abbrev tBlob : Ty := .prod .bool (.prod bs .unit)
noncomputable abbrev tHead : Ty := .prod .str (.prod tBlob .unit)
noncomputable abbrev tHeads : Ty := .sl 49 tHead
noncomputable abbrev tRow : Ty := .prod (.int .i64) (.prod (.int .i32) (.prod tBlob (.prod tBlob (.prod tHeads .unit))))
noncomputable abbrev dBlob : Sh := .dat tBlob true false
noncomputable abbrev dRow : Sh := .dat tRow true false
noncomputable abbrev dHeads : Sh := .dat tHeads false false

/-! ### leat/leatref07.TwinBlob -/
noncomputable abbrev iorTwinBlob : Io := ⟨[dBlob], [], [], [dBlob], none⟩
noncomputable def FrTwinBlob (d : iorTwinBlob.In) : Tr iorTwinBlob.Res := .ite (decide (d.1.1.2.1.length ≤ 4294967296)) (.ret (.ret ((d.1.1, ()), ()))) .no
noncomputable abbrev csrTwinBlob : List (Nat × Hc) := [(23, ioHd ioCopy FCopy)]
noncomputable def hdrTwinBlob : Hd := hdT csrTwinBlob
noncomputable def lprTwinBlob : Lp := lpT []

noncomputable def bodyrTwinBlob (a0 : Bool) (a1 : List Int) : Option iorTwinBlob.Res := bif decide (a1.length ≤ 4294967296) then some (Out.ret (((a0, a1, ()), ()), ())) else none
theorem runrTwinBlob (a0 : Bool) (a1 : List Int) : Io.run tt hdrTwinBlob dr lprTwinBlob iorTwinBlob Go.Proofs.Try.f38 (((a0, a1, ()), ()), ()) = bodyrTwinBlob a0 a1 := by kernel_rfl
theorem okrTwinBlob : HcOk prog 38 (ioHd iorTwinBlob FrTwinBlob) := by
  refine fn_sound (n := 400) hm (cs := csrTwinBlob) (.cons okCopy .nil) (lp := lprTwinBlob) (fn := Go.Proofs.Try.f38) (by kernel_rfl) (by kernel_rfl) (by kernel_rfl) iorTwinBlob (.done (by kernel_rfl)) FrTwinBlob ?_
  rintro ⟨⟨⟨(n : Bool), (b : List Int), ⟨⟩⟩, ⟨⟩⟩, ⟨⟩⟩ out hw ho
  obtain ⟨hg, ho⟩ := Tr.guard ho
  cases ho
  refine (runrTwinBlob n b).trans ?_
  have hg : b.length ≤ 4294967296 := by simpa using hg
  unfold bodyrTwinBlob
  rw [bif_true (by simpa using hg)]

/-! ### leat/leatref07.AlikeBlob -/
noncomputable abbrev iorAlikeBlob : Io := ⟨[dBlob, dBlob], [], [], [dB], none⟩
noncomputable def FrAlikeBlob (d : iorAlikeBlob.In) : Tr iorAlikeBlob.Res := .ret (.ret ((decide (d.1.1 = d.1.2.1), ()), ()))
noncomputable abbrev csrAlikeBlob : List (Nat × Hc) := [(25, ioHd ioSame FSame)]
noncomputable def hdrAlikeBlob : Hd := hdT csrAlikeBlob
noncomputable def lprAlikeBlob : Lp := lpT []

noncomputable def bodyrAlikeBlob (a0 : Bool) (a1 : List Int) (a2 : Bool) (a3 : List Int) : Option iorAlikeBlob.Res := bif a0 == a2 then some (Out.ret ((decide (a1 = a3), ()), ())) else some (Out.ret ((false, ()), ()))
theorem runrAlikeBlob (a0 : Bool) (a1 : List Int) (a2 : Bool) (a3 : List Int) : Io.run tt hdrAlikeBlob dr lprAlikeBlob iorAlikeBlob Go.Proofs.Try.f34 (((a0, a1, ()), (a2, a3, ()), ()), ()) = bodyrAlikeBlob a0 a1 a2 a3 := by kernel_rfl
theorem okrAlikeBlob : HcOk prog 34 (ioHd iorAlikeBlob FrAlikeBlob) := by
  refine fn_sound (n := 400) hm (cs := csrAlikeBlob) (.cons okSame .nil) (lp := lprAlikeBlob) (fn := Go.Proofs.Try.f34) (by kernel_rfl) (by kernel_rfl) (by kernel_rfl) iorAlikeBlob (.done (by kernel_rfl)) FrAlikeBlob ?_
  rintro ⟨⟨⟨(n : Bool), (b : List Int), ⟨⟩⟩, ⟨(m : Bool), (c : List Int), ⟨⟩⟩, ⟨⟩⟩, ⟨⟩⟩ out hw ho
  cases ho
  refine (runrAlikeBlob n b m c).trans ?_
  unfold bodyrAlikeBlob
  show _ = some (Out.ret ((decide (((n, b, ()) : Bool × List Int × Unit) = (m, c, ())), ()), ()))
  cases n <;> cases m <;> simp

end
end Go.Proofs.Ytnppjkijhcampaa.Sym

/- leatref07: TwinHeads, Twin, AlikeHeads, Alike. -/
namespace Go.Proofs.Ytnppjkijhcampaa.Sym
open Go
set_option linter.unusedSimpArgs false
set_option linter.unusedVariables false
noncomputable section

abbrev Blob : Type := Bool × List Int × Unit
abbrev Head : Type := List Int × Blob × Unit
abbrev RowD : Type := Int × Int × Blob × Blob × List Head × Unit
/-- No list is longer than Copy copes with. -/
def spSmall (hs : List Head) : Bool := decide (hs.length ≤ 4294967296) && hs.all fun h => decide (h.2.1.2.1.length ≤ 4294967296)
def spSmallR (r : RowD) : Bool := decide (r.2.2.1.2.1.length ≤ 4294967296) && (decide (r.2.2.2.1.2.1.length ≤ 4294967296) && spSmall r.2.2.2.2.1)
def spEqR (a b : RowD) : Bool := decide (a.1 = b.1) && (decide (a.2.1 = b.2.1) && (decide (a.2.2.1 = b.2.2.1) && (decide (a.2.2.2.1 = b.2.2.2.1) && decide (a.2.2.2.2.1 = b.2.2.2.2.1))))
theorem spEqR_iff {a b : RowD} : spEqR a b = true ↔ a = b := by
  obtain ⟨a1, a2, a3, a4, a5, ⟨⟩⟩ := a
  obtain ⟨b1, b2, b3, b4, b5, ⟨⟩⟩ := b
  simp [spEqR]
theorem spSmall_iff {hs : List Head} : spSmall hs = true ↔ hs.length ≤ 4294967296 ∧ ∀ h ∈ hs, h.2.1.2.1.length ≤ 4294967296 := by
  simp [spSmall]

/-! ### leat/leatref07.TwinHeads -/
noncomputable abbrev dHeadsO : Sh := .dat tHeads false true
noncomputable abbrev iorTwinHeads : Io := ⟨[dHeads], [], [], [dHeadsO], none⟩
noncomputable def FrTwinHeads (d : iorTwinHeads.In) : Tr iorTwinHeads.Res := .ite (spSmall d.1.1) (.ret (.ret ((d.1.1, ()), ()))) .no
noncomputable abbrev csrTwinHeads : List (Nat × Hc) := [(38, ioHd iorTwinBlob FrTwinBlob)]
noncomputable def hdrTwinHeads : Hd := hdT csrTwinHeads
noncomputable abbrev lorTwinHeads_4 : Lo := ⟨⟨[.one (.hol (.sl 49 (Ty.str.prod ((Ty.bool.prod ((Ty.sl 5 (Ty.int IntKind.u8)).prod Ty.unit)).prod Ty.unit)))), .any, .any, .one (.onl 49 (Ty.str.prod ((Ty.bool.prod ((Ty.sl 5 (Ty.int IntKind.u8)).prod Ty.unit)).prod Ty.unit)) 7), .one (.hol (.int IntKind.i64)), .any, .any, .any, .any, .any, .any, .any, .any, .any, .any, .any, .any, .any, .any, .any, .any, .any, .any, .any, .any, .any, .any, .any], []⟩, [(.exit 0, ⟨[.any, .any, .any, .one (.onl 49 (Ty.str.prod ((Ty.bool.prod ((Ty.sl 5 (Ty.int IntKind.u8)).prod Ty.unit)).prod Ty.unit)) 7), .any, .any, .any, .any, .any, .any, .any, .any, .any, .any, .any, .any, .any, .any, .any, .any, .any, .any, .any, .any, .any, .any, .any, .any], []⟩)]⟩
-- FrTwinHeads_4 : lorTwinHeads_4.st.den → Tr (DenX lorTwinHeads_4.xs) | ((h1, (h2, (h3, ()))), ())
noncomputable def FrTwinHeads_4 (d : lorTwinHeads_4.st.den) : Tr (DenX lorTwinHeads_4.xs) :=
  .ite (decide (d.1.2.2.1 = (0 : Int)) && decide (d.1.2.1 = ([] : List Head)) && spSmall d.1.1) (.ret (.ret ((), ((d.1.1, ()), ())))) .no
noncomputable def lprTwinHeads : Lp := lpT [(4, loHd lorTwinHeads_4 FrTwinHeads_4)]
noncomputable def steprTwinHeads_4 {R : Type} (h1 : List tHead.den) (h2 : List (Ty.str.prod ((Ty.bool.prod ((Ty.sl 5 (Ty.int IntKind.u8)).prod Ty.unit)).prod Ty.unit)).den) (h3 : Int) (next : List tHead.den → List (Ty.str.prod ((Ty.bool.prod ((Ty.sl 5 (Ty.int IntKind.u8)).prod Ty.unit)).prod Ty.unit)).den → Int → Option R) (out : DenX lorTwinHeads_4.xs → Option R) : Option R := bif decide (h3 < (↑h1.length : Int)) then bif decide (0 ≤ h3) && decide (h3 < (↑h1.length : Int)) then bif decide (0 ≤ h3) && decide (h3 < (↑h1.length : Int)) then bif decide (List.length (h1.getD h3.toNat ([], (false, [], ()), ())).snd.fst.snd.fst ≤ 4294967296) then bif decide (h2.length + [((h1.getD h3.toNat ([], (false, [], ()), ())).fst, ((h1.getD h3.toNat ([], (false, [], ()), ())).snd.fst.fst, (h1.getD h3.toNat ([], (false, [], ()), ())).snd.fst.snd.fst, ()), ())].length ≤ 4294967296) then next (h1) (h2 ++ [((h1.getD h3.toNat ([], (false, [], ()), ())).fst, ((h1.getD h3.toNat ([], (false, [], ()), ())).snd.fst.fst, (h1.getD h3.toNat ([], (false, [], ()), ())).snd.fst.snd.fst, ()), ())]) (IntKind.i64.wrap (h3 + 1)) else none else none else none else none else out (.ret ((), ((h2, ()), ())))
noncomputable def itrTwinHeads_4 (n : Nat) (h1 : List tHead.den) (h2 : List (Ty.str.prod ((Ty.bool.prod ((Ty.sl 5 (Ty.int IntKind.u8)).prod Ty.unit)).prod Ty.unit)).den) (h3 : Int) : Option (DenX lorTwinHeads_4.xs) := lpN tt hdrTwinHeads dr lprTwinHeads 0 Go.Proofs.Try.f39 (topL Go.Proofs.Try.f39 0) n (lorTwinHeads_4.st.mk' ((h1, (h2, (h3, ()))), ())) (decX lorTwinHeads_4.xs)
theorem slrTwinHeads_4 (n : Nat) (h1 : List tHead.den) (h2 : List (Ty.str.prod ((Ty.bool.prod ((Ty.sl 5 (Ty.int IntKind.u8)).prod Ty.unit)).prod Ty.unit)).den) (h3 : Int) : itrTwinHeads_4 (n + 1) h1 h2 h3 = steprTwinHeads_4 h1 h2 h3 (itrTwinHeads_4 n) some := by kernel_rfl
theorem looprTwinHeads (b : List Head) (hb : spSmall b = true) (hm : b.length ≤ maxLen) : ∀ (k : Nat) (i : Nat), i ≤ b.length → b.length < i + k →
    itrTwinHeads_4 k b (b.take i) i = some (.ret ((), ((b, ()), ()))) := by
  have hs := spSmall_iff.1 hb
  intro k
  induction k with
  | zero => intro i h1 h2; omega
  | succ k ih =>
    intro i h1 h2
    rw [slrTwinHeads_4]
    unfold steprTwinHeads_4
    by_cases hi : i < b.length
    · have e : (b.getD (i : Int).toNat ([], (false, [], ()), ()) : Head) = b[i] := getD_lt hi
      have h4 := hs.2 b[i] (List.getElem_mem hi)
      have ht : b.take i ++ [b[i]] = b.take (i + 1) := by rw [List.take_add_one, List.getElem?_eq_getElem hi]; rfl
      have hl : (b.take i).length = i := by rw [List.length_take]; omega
      rw [wrap_succ hi hm]
      rw [← e] at ht h4
      generalize (b.getD (i : Int).toNat ([], (false, [], ()), ()) : Head) = x at *
      obtain ⟨x1, ⟨x2, x3, ⟨⟩⟩, ⟨⟩⟩ := x
      have h5 : i + 1 ≤ 4294967296 := by omega
      have h4 : x3.length ≤ 4294967296 := h4
      rw [bif_true (by simpa using hi), bif_true (by simp [hi]), bif_true (by simp [hi]), bif_true (by simpa using h4), bif_true (by simp [hl, h5]), ← ih (i + 1) hi (by omega), ← ht]
    · have : b.take i = b := List.take_of_length_le (by omega)
      rw [this]
      simp [hi]
noncomputable def bodyrTwinHeads (a0 : List tHead.den) : Option iorTwinHeads.Res := (FrTwinHeads_4 ((a0, ([], (0, ()))), ())).run fun y => match y with | .ret ((), ((x8, ()), ())) => (some (Out.ret ((x8, ()), ())))
theorem runrTwinHeads (a0 : List tHead.den) : Io.run tt hdrTwinHeads dr lprTwinHeads iorTwinHeads Go.Proofs.Try.f39 ((a0, ()), ()) = bodyrTwinHeads a0 := by kernel_rfl
theorem okrTwinHeads : HcOk prog 39 (ioHd iorTwinHeads FrTwinHeads) := by
  refine fn_sound (n := 400) hm (cs := csrTwinHeads) (.cons okrTwinBlob .nil) (lp := lprTwinHeads) (fn := Go.Proofs.Try.f39) (by kernel_rfl) (by kernel_rfl) (by kernel_rfl) iorTwinHeads
    (.step (h0 := loHd lorTwinHeads_4 FrTwinHeads_4) (by kernel_rfl) (loop_sound (n := 400) hm (cs := csrTwinHeads) (.cons okrTwinBlob .nil) (lp := lprTwinHeads) (fn := Go.Proofs.Try.f39) (.done (by kernel_rfl)) lorTwinHeads_4 FrTwinHeads_4 ?_) (.done (by kernel_rfl))) FrTwinHeads ?_
  · rintro ⟨⟨(b : List Head), (o : List Head), (i : Int), ⟨⟩⟩, ⟨⟩⟩ y hw hy
    obtain ⟨hg, hy⟩ := Tr.guard hy
    simp only [Bool.and_eq_true, decide_eq_true_eq] at hg
    obtain ⟨⟨hi, ho⟩, hl⟩ := hg
    have hi : i = 0 := hi
    have ho : o = [] := ho
    subst hi ho
    refine ⟨b.length + 1, (looprTwinHeads b hl hw.1.1.1 _ 0 (by omega) (by omega)).trans ?_⟩
    rw [← hy]; rfl
  · rintro ⟨⟨(b : List Head), ⟨⟩⟩, ⟨⟩⟩ out hw ho
    obtain ⟨hg, ho⟩ := Tr.guard ho
    cases ho
    refine (runrTwinHeads b).trans ?_
    have hg : spSmall b = true := hg
    unfold bodyrTwinHeads FrTwinHeads_4
    simp [Tr.run_ite, Tr.run_ret, hg]

/-! ### leat/leatref07.AlikeHeads -/
noncomputable abbrev iorAlikeHeads : Io := ⟨[dHeads, dHeads], [], [], [dB], none⟩
noncomputable def FrAlikeHeads (d : iorAlikeHeads.In) : Tr iorAlikeHeads.Res := .ret (.ret ((decide (d.1.1 = d.1.2.1), ()), ()))
noncomputable abbrev csrAlikeHeads : List (Nat × Hc) := [(34, ioHd iorAlikeBlob FrAlikeBlob)]
noncomputable def hdrAlikeHeads : Hd := hdT csrAlikeHeads
noncomputable abbrev lorAlikeHeads_5 : Lo := ⟨⟨[.one (.hol (.sl 49 (Ty.str.prod ((Ty.bool.prod ((Ty.sl 5 (Ty.int IntKind.u8)).prod Ty.unit)).prod Ty.unit)))), .one (.hol (.sl 49 (Ty.str.prod ((Ty.bool.prod ((Ty.sl 5 (Ty.int IntKind.u8)).prod Ty.unit)).prod Ty.unit)))), .any, .any, .any, .one (.hol (.int IntKind.i64)), .any, .any, .any, .any, .any, .any, .any, .any, .any, .any, .any, .any, .any, .any, .any, .any, .any, .any, .any, .any, .any, .any, .any, .any, .any, .any, .any, .any, .any, .any, .any, .any, .any, .any, .any, .any], []⟩, [(.ret, ⟨[.any, .any, .any, .any, .one (.hol .bool), .any, .any, .any, .any, .any, .any, .any, .any, .any, .any, .any, .any, .any, .any, .any, .any, .any, .any, .any, .any, .any, .any, .any, .any, .any, .any, .any, .any, .any, .any, .any, .any, .any, .any, .any, .any, .any], []⟩), (.exit 0, ⟨[.any, .any, .any, .any, .any, .any, .any, .any, .any, .any, .any, .any, .any, .any, .any, .any, .any, .any, .any, .any, .any, .any, .any, .any, .any, .any, .any, .any, .any, .any, .any, .any, .any, .any, .any, .any, .any, .any, .any, .any, .any, .any], []⟩)]⟩
-- FrAlikeHeads_5 : lorAlikeHeads_5.st.den → Tr (DenX lorAlikeHeads_5.xs) | ((h2, (h3, (h4, ()))), ())
noncomputable def FrAlikeHeads_5 (d : lorAlikeHeads_5.st.den) : Tr (DenX lorAlikeHeads_5.xs) :=
  .ite (decide (d.1.2.2.1 = (0 : Int)) && decide (d.1.1.length = d.1.2.1.length)) (.ite (decide (d.1.1 = d.1.2.1)) (.ret (.pan (.ret ((), ((), ()))))) (.ret (.ret ((), ((false, ()), ()))))) .no
noncomputable def lprAlikeHeads : Lp := lpT [(5, loHd lorAlikeHeads_5 FrAlikeHeads_5)]
noncomputable def steprAlikeHeads_5 {R : Type} (h2 : List tHead.den) (h3 : List tHead.den) (h4 : Int) (next : List tHead.den → List tHead.den → Int → Option R) (out : DenX lorAlikeHeads_5.xs → Option R) : Option R := bif decide (h4 < (↑h2.length : Int)) then bif decide (0 ≤ h4) && decide (h4 < (↑h2.length : Int)) then bif decide (0 ≤ h4) && decide (h4 < (↑h3.length : Int)) then bif !decide ((h2.getD h4.toNat ([], (false, [], ()), ())).fst = (h3.getD h4.toNat ([], (false, [], ()), ())).fst) then out (.ret ((), ((false, ()), ()))) else bif decide (0 ≤ h4) && decide (h4 < (↑h2.length : Int)) then bif decide (0 ≤ h4) && decide (h4 < (↑h3.length : Int)) then bif !decide (((h2.getD h4.toNat ([], (false, [], ()), ())).snd.fst.fst, (h2.getD h4.toNat ([], (false, [], ()), ())).snd.fst.snd.fst, ()) = ((h3.getD h4.toNat ([], (false, [], ()), ())).snd.fst.fst, (h3.getD h4.toNat ([], (false, [], ()), ())).snd.fst.snd.fst, ())) then out (.ret ((), ((false, ()), ()))) else next (h2) (h3) (IntKind.i64.wrap (h4 + 1)) else none else none else none else none else out (.pan (.ret ((), ((), ()))))
noncomputable def itrAlikeHeads_5 (n : Nat) (h2 : List tHead.den) (h3 : List tHead.den) (h4 : Int) : Option (DenX lorAlikeHeads_5.xs) := lpN tt hdrAlikeHeads dr lprAlikeHeads 0 Go.Proofs.Try.f35 (topL Go.Proofs.Try.f35 0) n (lorAlikeHeads_5.st.mk' ((h2, (h3, (h4, ()))), ())) (decX lorAlikeHeads_5.xs)
theorem slrAlikeHeads_5 (n : Nat) (h2 : List tHead.den) (h3 : List tHead.den) (h4 : Int) : itrAlikeHeads_5 (n + 1) h2 h3 h4 = steprAlikeHeads_5 h2 h3 h4 (itrAlikeHeads_5 n) some := by kernel_rfl
theorem looprAlikeHeads (xs ys : List Head) (hl : xs.length = ys.length) (hb : xs.length ≤ maxLen) : ∀ (k i : Nat), i ≤ xs.length → xs.length < i + k →
    itrAlikeHeads_5 k xs ys (i : Int) = if xs.drop i = ys.drop i then some (.pan (.ret ((), ((), ())))) else some (.ret ((), ((false, ()), ()))) := by
  intro k
  induction k with
  | zero => intro i h h'; omega
  | succ k ih =>
    intro i hi h
    rw [slrAlikeHeads_5]
    unfold steprAlikeHeads_5
    by_cases h1 : i < xs.length
    · have h2 : i < ys.length := by omega
      rw [wrap_succ h1 hb, ih (i + 1) h1 (by omega)]
      have e : (xs.drop i = ys.drop i) ↔ (xs[i] = ys[i] ∧ xs.drop (i + 1) = ys.drop (i + 1)) := by rw [List.drop_eq_getElem_cons h1, List.drop_eq_getElem_cons h2, List.cons.injEq]
      have e1 : (xs.getD (i : Int).toNat ([], (false, [], ()), ()) : Head) = xs[i] := getD_lt h1
      have e2 : (ys.getD (i : Int).toNat ([], (false, [], ()), ()) : Head) = ys[i] := getD_lt h2
      rw [← e1, ← e2] at e
      generalize (xs.getD (i : Int).toNat ([], (false, [], ()), ()) : Head) = x at *
      generalize (ys.getD (i : Int).toNat ([], (false, [], ()), ()) : Head) = y at *
      obtain ⟨x1, ⟨x2, x3, ⟨⟩⟩, ⟨⟩⟩ := x
      obtain ⟨y1, ⟨y2, y3, ⟨⟩⟩, ⟨⟩⟩ := y
      by_cases he : x1 = y1 <;> by_cases he2 : x2 = y2 <;> by_cases he3 : x3 = y3 <;> simp [h1, h2, he, he2, he3, e, cond_eq_ite]
    · rw [List.drop_of_length_le (by omega), List.drop_of_length_le (by omega)]
      simp [h1]
noncomputable def bodyrAlikeHeads (a0 : List tHead.den) (a1 : List tHead.den) : Option iorAlikeHeads.Res := bif (↑a0.length : Int) != (↑a1.length : Int) then some (Out.ret ((false, ()), ())) else (FrAlikeHeads_5 ((a0, (a1, (0, ()))), ())).run fun y => match y with | .ret ((), ((x10, ()), ())) => (some (Out.ret ((x10, ()), ()))) | .pan (.ret ((), ((), ()))) => (some (Out.ret ((true, ()), ())))
theorem runrAlikeHeads (a0 : List tHead.den) (a1 : List tHead.den) : Io.run tt hdrAlikeHeads dr lprAlikeHeads iorAlikeHeads Go.Proofs.Try.f35 ((a0, a1, ()), ()) = bodyrAlikeHeads a0 a1 := by kernel_rfl
theorem okrAlikeHeads : HcOk prog 35 (ioHd iorAlikeHeads FrAlikeHeads) := by
  refine fn_sound (n := 400) hm (cs := csrAlikeHeads) (.cons okrAlikeBlob .nil) (lp := lprAlikeHeads) (fn := Go.Proofs.Try.f35) (by kernel_rfl) (by kernel_rfl) (by kernel_rfl) iorAlikeHeads
    (.step (h0 := loHd lorAlikeHeads_5 FrAlikeHeads_5) (by kernel_rfl) (loop_sound (n := 400) hm (cs := csrAlikeHeads) (.cons okrAlikeBlob .nil) (lp := lprAlikeHeads) (fn := Go.Proofs.Try.f35) (.done (by kernel_rfl)) lorAlikeHeads_5 FrAlikeHeads_5 ?_) (.done (by kernel_rfl))) FrAlikeHeads ?_
  · rintro ⟨⟨(xs : List Head), (ys : List Head), (i : Int), ⟨⟩⟩, ⟨⟩⟩ y hw hy
    obtain ⟨hg, hy⟩ := Tr.guard hy
    simp only [Bool.and_eq_true, decide_eq_true_eq] at hg
    obtain ⟨hi, hl⟩ := hg
    have hi : i = 0 := hi
    have hl : xs.length = ys.length := hl
    subst hi
    refine ⟨xs.length + 1, (looprAlikeHeads xs ys hl hw.1.1.1 _ 0 (by omega) (by omega)).trans ?_⟩
    rw [← hy]
    simp only [Tr.val_ite, decide_eq_true_eq, Tr.val_ret, List.drop_zero]
  · rintro ⟨⟨(xs : List Head), (ys : List Head), ⟨⟩⟩, ⟨⟩⟩ out hw ho
    cases ho
    refine (runrAlikeHeads xs ys).trans ?_
    unfold bodyrAlikeHeads FrAlikeHeads_5
    show _ = some (Out.ret ((decide (xs = ys), ()), ()))
    by_cases hl : xs.length = ys.length
    · by_cases he : xs = ys
      · subst he; simp [Tr.run]
      · simp [Tr.run, hl, he]
    · have : xs ≠ ys := fun e => hl (by rw [e])
      have h2 : (xs.length : Int) ≠ ys.length := by omega
      simp [this, h2, cond_eq_ite]

/-! ### leat/leatref07.Twin -/
noncomputable abbrev iorTwin : Io := ⟨[dRow], [], [], [dRow], none⟩
noncomputable def FrTwin (d : iorTwin.In) : Tr iorTwin.Res := .ite (spSmallR d.1.1) (.ret (.ret ((d.1.1, ()), ()))) .no
noncomputable abbrev csrTwin : List (Nat × Hc) := [(38, ioHd iorTwinBlob FrTwinBlob), (39, ioHd iorTwinHeads FrTwinHeads)]
noncomputable def hdrTwin : Hd := hdT csrTwin
noncomputable def lprTwin : Lp := lpT []

noncomputable def bodyrTwin (a0 : Int) (a1 : Int) (a2 : Bool) (a3 : List Int) (a4 : Bool) (a5 : List Int) (a6 : List tHead.den) : Option iorTwin.Res := bif decide (a3.length ≤ 4294967296) then bif decide (a5.length ≤ 4294967296) then bif spSmall a6 then some (Out.ret (((a0, a1, (a2, a3, ()), (a4, a5, ()), a6, ()), ()), ())) else none else none else none
theorem runrTwin (a0 : Int) (a1 : Int) (a2 : Bool) (a3 : List Int) (a4 : Bool) (a5 : List Int) (a6 : List tHead.den) : Io.run tt hdrTwin dr lprTwin iorTwin Go.Proofs.Try.f16 (((a0, a1, (a2, a3, ()), (a4, a5, ()), a6, ()), ()), ()) = bodyrTwin a0 a1 a2 a3 a4 a5 a6 := by kernel_rfl
theorem okrTwin : HcOk prog 16 (ioHd iorTwin FrTwin) := by
  refine fn_sound (n := 400) hm (cs := csrTwin) (.cons okrTwinBlob (.cons okrTwinHeads .nil)) (lp := lprTwin) (fn := Go.Proofs.Try.f16) (by kernel_rfl) (by kernel_rfl) (by kernel_rfl) iorTwin (.done (by kernel_rfl)) FrTwin ?_
  rintro ⟨⟨⟨(a0 : Int), (a1 : Int), ⟨(a2 : Bool), (a3 : List Int), ⟨⟩⟩, ⟨(a4 : Bool), (a5 : List Int), ⟨⟩⟩, (a6 : List Head), ⟨⟩⟩, ⟨⟩⟩, ⟨⟩⟩ out hw ho
  obtain ⟨hg, ho⟩ := Tr.guard ho
  cases ho
  refine (runrTwin a0 a1 a2 a3 a4 a5 a6).trans ?_
  have hg : (decide (a3.length ≤ 4294967296) && (decide (a5.length ≤ 4294967296) && spSmall a6)) = true := hg
  simp only [Bool.and_eq_true] at hg
  unfold bodyrTwin
  rw [bif_true hg.1, bif_true hg.2.1, bif_true hg.2.2]

/-! ### leat/leatref07.Alike -/
noncomputable abbrev iorAlike : Io := ⟨[dRow, dRow], [], [], [dB], none⟩
noncomputable def FrAlike (d : iorAlike.In) : Tr iorAlike.Res := .ret (.ret ((spEqR d.1.1 d.1.2.1, ()), ()))
noncomputable abbrev csrAlike : List (Nat × Hc) := [(34, ioHd iorAlikeBlob FrAlikeBlob), (35, ioHd iorAlikeHeads FrAlikeHeads)]
noncomputable def hdrAlike : Hd := hdT csrAlike
noncomputable def lprAlike : Lp := lpT []

noncomputable def bodyrAlike (a0 : Int) (a1 : Int) (a2 : Bool) (a3 : List Int) (a4 : Bool) (a5 : List Int) (a6 : List tHead.den) (a7 : Int) (a8 : Int) (a9 : Bool) (a10 : List Int) (a11 : Bool) (a12 : List Int) (a13 : List tHead.den) : Option iorAlike.Res := bif a0 != a7 then some (Out.ret ((false, ()), ())) else bif a1 != a8 then some (Out.ret ((false, ()), ())) else bif decide ((a2, a3, ()) = (a9, a10, ())) then bif decide ((a4, a5, ()) = (a11, a12, ())) then some (Out.ret ((decide (a6 = a13), ()), ())) else some (Out.ret ((false, ()), ())) else some (Out.ret ((false, ()), ()))
theorem runrAlike (a0 : Int) (a1 : Int) (a2 : Bool) (a3 : List Int) (a4 : Bool) (a5 : List Int) (a6 : List tHead.den) (a7 : Int) (a8 : Int) (a9 : Bool) (a10 : List Int) (a11 : Bool) (a12 : List Int) (a13 : List tHead.den) : Io.run tt hdrAlike dr lprAlike iorAlike Go.Proofs.Try.f13 (((a0, a1, (a2, a3, ()), (a4, a5, ()), a6, ()), (a7, a8, (a9, a10, ()), (a11, a12, ()), a13, ()), ()), ()) = bodyrAlike a0 a1 a2 a3 a4 a5 a6 a7 a8 a9 a10 a11 a12 a13 := by kernel_rfl
theorem okrAlike : HcOk prog 13 (ioHd iorAlike FrAlike) := by
  refine fn_sound (n := 400) hm (cs := csrAlike) (.cons okrAlikeBlob (.cons okrAlikeHeads .nil)) (lp := lprAlike) (fn := Go.Proofs.Try.f13) (by kernel_rfl) (by kernel_rfl) (by kernel_rfl) iorAlike (.done (by kernel_rfl)) FrAlike ?_
  rintro ⟨⟨⟨(a0 : Int), (a1 : Int), ⟨(a2 : Bool), (a3 : List Int), ⟨⟩⟩, ⟨(a4 : Bool), (a5 : List Int), ⟨⟩⟩, (a6 : List Head), ⟨⟩⟩, ⟨(b0 : Int), (b1 : Int), ⟨(b2 : Bool), (b3 : List Int), ⟨⟩⟩, ⟨(b4 : Bool), (b5 : List Int), ⟨⟩⟩, (b6 : List Head), ⟨⟩⟩, ⟨⟩⟩, ⟨⟩⟩ out hw ho
  cases ho
  refine (runrAlike a0 a1 a2 a3 a4 a5 a6 b0 b1 b2 b3 b4 b5 b6).trans ?_
  unfold bodyrAlike
  show _ = some (Out.ret ((spEqR (a0, a1, (a2, a3, ()), (a4, a5, ()), a6, ()) (b0, b1, (b2, b3, ()), (b4, b5, ()), b6, ()), ()), ()))
  unfold spEqR
  by_cases h0 : a0 = b0
  · by_cases h1 : a1 = b1
    · rw [bif_false (by simpa using h0), bif_false (by simpa using h1)]
      simp only [h0, h1, decide_true, Bool.true_and]
      cases hx : decide ((a2, a3, ()) = (b2, b3, ())) <;> cases hy : decide ((a4, a5, ()) = (b4, b5, ())) <;> rfl
    · rw [bif_false (by simpa using h0), bif_true (by simpa using h1)]
      simp [h1]
  · rw [bif_true (by simpa using h0)]
    simp [h0]

end
end Go.Proofs.Ytnppjkijhcampaa.Sym

/- leatref07: take, heads, row, Get. -/
namespace Go.Proofs.Ytnppjkijhcampaa.Sym
open Go
set_option linter.unusedSimpArgs false
set_option linter.unusedVariables false
noncomputable section

/-- A number of 32 bits read: the number, the place behind, the error. -/
noncomputable def spNum (b : List Int) (p : Int) : Int × Int × Int := (IntKind.wrap .i32 (spZag (spGet 5 15 b p).1), (spGet 5 15 b p).2.1, (spGet 5 15 b p).2.2)
/-- A blob read: the blob, the place behind, the error. -/
noncomputable def spTake (b : List Int) (p : Int) (least : Int) : Blob × Int × Int :=
  if (spNum b p).2.2 ≠ 0 then ((false, [], ()), 0, (spNum b p).2.2)
  else if (spNum b p).1 < least then ((false, [], ()), 0, 5)
  else if (spNum b p).1 < 0 then ((true, [], ()), (spNum b p).2.1, 0)
  else if (b.length : Int) - (spNum b p).2.1 < (spNum b p).1 then ((false, [], ()), 0, 1)
  else ((false, (b.drop (spNum b p).2.1.toNat).take (spNum b p).1.toNat, ()), (spNum b p).2.1 + (spNum b p).1, 0)
/-- n headers read behind those that are there. -/
noncomputable def spHeadsN (b : List Int) : Nat → List Head → Int → List Head × Int × Int
  | 0, out, p => (out, p, 0)
  | n + 1, out, p =>
    if (spTake b p 0).2.2 ≠ 0 then ([], 0, (spTake b p 0).2.2)
    else if (spUtf (spTake b p 0).1.2.1).2 = false then ([], 0, 6)
    else if (spTake b (spTake b p 0).2.1 (-1)).2.2 ≠ 0 then ([], 0, (spTake b (spTake b p 0).2.1 (-1)).2.2)
    else spHeadsN b n (out ++ [((spTake b p 0).1.2.1, (spTake b (spTake b p 0).2.1 (-1)).1, ())]) (spTake b (spTake b p 0).2.1 (-1)).2.1
theorem spHeadsN_err (b : List Int) : ∀ (n : Nat) (o : List Head) (p : Int), (spHeadsN b n o p).2.2 ≠ 0 → (spHeadsN b n o p).1 = [] ∧ (spHeadsN b n o p).2.1 = 0
  | 0, o, p, h => absurd rfl h
  | n + 1, o, p, h => by
    unfold spHeadsN at h ⊢
    split
    · exact ⟨rfl, rfl⟩
    split
    · exact ⟨rfl, rfl⟩
    split
    · exact ⟨rfl, rfl⟩
    rename_i h1 h2 h3
    rw [if_neg h1, if_neg h2, if_neg h3] at h
    exact spHeadsN_err b n _ _ h
noncomputable def spHeads (b : List Int) (p : Int) : List Head × Int × Int :=
  if (spNum b p).2.2 ≠ 0 then ([], 0, (spNum b p).2.2)
  else if (spNum b p).1 < 0 then ([], 0, 5)
  else if 16 < (spNum b p).1 then ([], 0, 9)
  else spHeadsN b (spNum b p).1.toNat [] (spNum b p).2.1
def spNone : RowD := (0, 0, (false, [], ()), (false, [], ()), [], ())
noncomputable def spRow (b : List Int) : RowD × Int :=
  if b.length = 0 then (spNone, 1)
  else if b.getD 0 0 ≠ 0 then (spNone, 71)
  else if (spGet 10 1 b 1).2.2 ≠ 0 then (spNone, (spGet 10 1 b 1).2.2)
  else if (spNum b (spGet 10 1 b 1).2.1).2.2 ≠ 0 then (spNone, (spNum b (spGet 10 1 b 1).2.1).2.2)
  else if (spNum b (spGet 10 1 b 1).2.1).1 < 0 then (spNone, 72)
  else if (spTake b (spNum b (spGet 10 1 b 1).2.1).2.1 (-1)).2.2 ≠ 0 then (spNone, (spTake b (spNum b (spGet 10 1 b 1).2.1).2.1 (-1)).2.2)
  else if (spTake b (spTake b (spNum b (spGet 10 1 b 1).2.1).2.1 (-1)).2.1 (-1)).2.2 ≠ 0 then (spNone, (spTake b (spTake b (spNum b (spGet 10 1 b 1).2.1).2.1 (-1)).2.1 (-1)).2.2)
  else if (spHeads b (spTake b (spTake b (spNum b (spGet 10 1 b 1).2.1).2.1 (-1)).2.1 (-1)).2.1).2.2 ≠ 0 then (spNone, (spHeads b (spTake b (spTake b (spNum b (spGet 10 1 b 1).2.1).2.1 (-1)).2.1 (-1)).2.1).2.2)
  else if (spHeads b (spTake b (spTake b (spNum b (spGet 10 1 b 1).2.1).2.1 (-1)).2.1 (-1)).2.1).2.1 < (b.length : Int) then (spNone, 2)
  else ((spZag (spGet 10 1 b 1).1, (spNum b (spGet 10 1 b 1).2.1).1, (spTake b (spNum b (spGet 10 1 b 1).2.1).2.1 (-1)).1, (spTake b (spTake b (spNum b (spGet 10 1 b 1).2.1).2.1 (-1)).2.1 (-1)).1, (spHeads b (spTake b (spTake b (spNum b (spGet 10 1 b 1).2.1).2.1 (-1)).2.1 (-1)).2.1).1, ()), 0)
noncomputable def spRec (b : List Int) (p : Int) : RowD × Int × Int :=
  if (spNum b p).2.2 ≠ 0 then (spNone, 0, (spNum b p).2.2)
  else if (spNum b p).1 < 0 then (spNone, 0, 5)
  else if 16384 < (spNum b p).1 then (spNone, 0, 4)
  else if (b.length : Int) - (spNum b p).2.1 < (spNum b p).1 then (spNone, 0, 1)
  else if (spRow ((b.drop (spNum b p).2.1.toNat).take (spNum b p).1.toNat)).2 ≠ 0 then (spNone, 0, (spRow ((b.drop (spNum b p).2.1.toNat).take (spNum b p).1.toNat)).2)
  else ((spRow ((b.drop (spNum b p).2.1.toNat).take (spNum b p).1.toNat)).1, (spNum b p).2.1 + (spNum b p).1, 0)

theorem Tr.run_of_val {α R : Type} : ∀ {t : Tr α} {K : α → Option R} {a : α}, t.val = some a → t.run K = K a
  | .ret a, K, b, h => by cases h; rfl
  | .no, K, b, h => by cases h
  | .ite c t e, K, b, h => by
    cases c with
    | true => exact Tr.run_of_val (t := t) h
    | false => exact Tr.run_of_val (t := e) h
/-- A contract that says no more. -/
theorem HcOk.weak {P : Program} {f : Nat} {io : Io} {F F' : io.In → Tr io.Res} (hF : ∀ d y, (F' d).val = some y → (F d).val = some y) (h : HcOk P f (ioHd io F)) : HcOk P f (ioHd io F') := by
  intro R args id A K r Fr G ts cst w vals hid hr Rl hv
  refine h R args id A K r Fr G ts cst w vals hid ?_ Rl hv
  unfold ioHd at hr ⊢
  split at hr
  · cases hr
  · split at hr
    · cases hr
    · rename_i a β1 e1 o β e2
      simp only at hr ⊢
      simp only [cond_eq_ite] at hr ⊢
      split at hr
      · rename_i hc
        rw [if_pos hc]
        obtain ⟨y, h1, h2⟩ := Tr.run_val hr
        rw [Tr.run_of_val (hF _ _ h1)]
        exact h2
      · cases hr
theorem spGet_err {m : Nat} {t : Int} {b : List Int} {p : Int} (h : (spGet m t b p).2.2 ≠ 0) : (spGet m t b p).1 = 0 ∧ (spGet m t b p).2.1 = 0 := by
  unfold spGet at h ⊢
  split
  · exact ⟨rfl, rfl⟩
  · split
    · rename_i h1 h2
      rw [if_neg h1, if_pos h2] at h
      exact absurd rfl h
    · exact ⟨rfl, rfl⟩
noncomputable def FrNum (d : iorGet32.In) : Tr iorGet32.Res := .ret (.ret (((spNum d.1.1 d.1.2.1).1, (spNum d.1.1 d.1.2.1).2.1, (spNum d.1.1 d.1.2.1).2.2, ()), ()))
theorem okrNum : HcOk prog 32 (ioHd iorGet32 FrNum) := by
  refine okrGet32.weak ?_
  rintro ⟨⟨(b : List Int), (p : Int), ⟨⟩⟩, ⟨⟩⟩ y h
  rw [← h]
  unfold FrGet32 FrNum spNum
  simp only [Tr.val_ite, Tr.val_ret, decide_eq_true_eq]
  by_cases h1 : (spGet 5 15 b p).2.2 = 0
  · rw [if_pos h1, h1]
  · obtain ⟨h2, h3⟩ := spGet_err h1
    rw [if_neg h1, h2, h3]
    rfl
noncomputable def FrLong (d : iorGet.In) : Tr iorGet.Res := .ret (.ret ((spZag (spGet 10 1 d.1.1 d.1.2.1).1, (spGet 10 1 d.1.1 d.1.2.1).2.1, (spGet 10 1 d.1.1 d.1.2.1).2.2, ()), ()))
theorem okrLong : HcOk prog 56 (ioHd iorGet FrLong) := by
  refine okrGet.weak ?_
  rintro ⟨⟨(b : List Int), (p : Int), ⟨⟩⟩, ⟨⟩⟩ y h
  rw [← h]
  unfold FrGet FrLong
  simp only [Tr.val_ite, Tr.val_ret, decide_eq_true_eq]
  by_cases h1 : (spGet 10 1 b p).2.2 = 0
  · rw [if_pos h1, h1]
  · obtain ⟨h2, h3⟩ := spGet_err h1
    rw [if_neg h1, h2, h3]
    rfl

theorem spGet_ok {m : Nat} {t : Int} {b : List Int} {p : Int} (h : (spGet m t b p).2.2 = 0) : 0 ≤ p ∧ p < (spGet m t b p).2.1 ∧ (spGet m t b p).2.1 ≤ b.length := by
  unfold spGet at h ⊢
  split
  · rename_i h1
    rw [if_pos h1] at h
    cases h
  · rename_i h1
    rw [if_neg h1] at h
    split
    · rename_i h2
      have h3 := spRd_le m t (b.drop p.toNat) 0 h2
      simp only [List.length_drop] at h3
      generalize (spRd m t (b.drop p.toNat) 0).1 = k at h3 ⊢
      simp only
      omega
    · rename_i h2
      rw [if_neg h2] at h
      exact absurd h h2
theorem spNum_ok {b : List Int} {p : Int} (h : (spNum b p).2.2 = 0) : 0 ≤ p ∧ p < (spNum b p).2.1 ∧ (spNum b p).2.1 ≤ b.length := spGet_ok h
theorem spNum_range {b : List Int} {p : Int} : -2147483648 ≤ (spNum b p).1 ∧ (spNum b p).1 ≤ 2147483647 := by
  have := inR_wrap .i32 (spZag (spGet 5 15 b p).1)
  simp [inR, IntKind.min, IntKind.max, IntKind.signed, IntKind.bits] at this
  exact this

/-! ### leat/leatref07.take -/

noncomputable abbrev iortake : Io := ⟨[dL, dI, d32], [], [], [dBlob, dI, dI], none⟩
noncomputable def Frtake (d : iortake.In) : Tr iortake.Res := .ret (.ret (((spTake d.1.1 d.1.2.1 d.1.2.2.1).1, (spTake d.1.1 d.1.2.1 d.1.2.2.1).2.1, (spTake d.1.1 d.1.2.1 d.1.2.2.1).2.2, ()), ()))
noncomputable abbrev csrtake : List (Nat × Hc) := [(32, ioHd iorGet32 FrNum), (23, ioHd ioCopy FCopy)]
noncomputable def hdrtake : Hd := hdT csrtake
noncomputable def lprtake : Lp := lpT []

noncomputable def bodyrtake (a0 : List Int) (a1 : Int) (a2 : Int) : Option iortake.Res := bif (spGet 5 15 a0 a1).snd.snd != 0 then some (Out.ret (((false, [], ()), 0, (spGet 5 15 a0 a1).snd.snd, ()), ())) else bif decide (IntKind.i32.wrap (spZag (spGet 5 15 a0 a1).fst) < a2) then some (Out.ret (((false, [], ()), 0, 5, ()), ())) else bif decide (IntKind.i32.wrap (spZag (spGet 5 15 a0 a1).fst) < 0) then some (Out.ret (((true, [], ()), (spGet 5 15 a0 a1).snd.fst, 0, ()), ())) else bif decide (IntKind.i64.wrap ((↑a0.length : Int) - (spGet 5 15 a0 a1).snd.fst) < IntKind.i64.wrap (IntKind.i32.wrap (spZag (spGet 5 15 a0 a1).fst))) then some (Out.ret (((false, [], ()), 0, 1, ()), ())) else bif decide (0 ≤ (spGet 5 15 a0 a1).snd.fst) && (decide ((spGet 5 15 a0 a1).snd.fst ≤ IntKind.i64.wrap ((spGet 5 15 a0 a1).snd.fst + IntKind.i64.wrap (IntKind.i32.wrap (spZag (spGet 5 15 a0 a1).fst)))) && decide (IntKind.i64.wrap ((spGet 5 15 a0 a1).snd.fst + IntKind.i64.wrap (IntKind.i32.wrap (spZag (spGet 5 15 a0 a1).fst))) ≤ (↑a0.length : Int))) then bif decide ((List.drop (spGet 5 15 a0 a1).snd.fst.toNat (List.take (IntKind.i64.wrap ((spGet 5 15 a0 a1).snd.fst + IntKind.i64.wrap (IntKind.i32.wrap (spZag (spGet 5 15 a0 a1).fst)))).toNat a0)).length ≤ 4294967296) then some (Out.ret (((false, List.drop (spGet 5 15 a0 a1).snd.fst.toNat (List.take (IntKind.i64.wrap ((spGet 5 15 a0 a1).snd.fst + IntKind.i64.wrap (IntKind.i32.wrap (spZag (spGet 5 15 a0 a1).fst)))).toNat a0), ()), IntKind.i64.wrap ((spGet 5 15 a0 a1).snd.fst + IntKind.i64.wrap (IntKind.i32.wrap (spZag (spGet 5 15 a0 a1).fst))), 0, ()), ())) else none else none
theorem runrtake (a0 : List Int) (a1 : Int) (a2 : Int) : Io.run tt hdrtake dr lprtake iortake Go.Proofs.Try.f57 ((a0, a1, a2, ()), ()) = bodyrtake a0 a1 a2 := by kernel_rfl
theorem okrtake : HcOk prog 57 (ioHd iortake Frtake) := by
  refine fn_sound (n := 400) hm (cs := csrtake) (.cons okrNum (.cons okCopy .nil)) (lp := lprtake) (fn := Go.Proofs.Try.f57) (by kernel_rfl) (by kernel_rfl) (by kernel_rfl) iortake (.done (by kernel_rfl)) Frtake ?_
  rintro ⟨⟨(b : List Int), (p : Int), (l : Int), ⟨⟩⟩, ⟨⟩⟩ out hw ho
  cases ho
  refine (runrtake b p l).trans ?_
  have hb : b.length ≤ maxLen := hw.1.1.1
  rw [maxLen_eq] at hb
  show _ = some (Out.ret (((spTake b p l).1, (spTake b p l).2.1, (spTake b p l).2.2, ()), ()))
  change (bif (spNum b p).2.2 != 0 then some (Out.ret (((false, [], ()), 0, (spNum b p).2.2, ()), ())) else bif decide ((spNum b p).1 < l) then _ else bif decide ((spNum b p).1 < 0) then some (Out.ret (((true, [], ()), (spNum b p).2.1, 0, ()), ())) else bif decide (IntKind.i64.wrap ((b.length : Int) - (spNum b p).2.1) < IntKind.i64.wrap (spNum b p).1) then _
    else bif decide (0 ≤ (spNum b p).2.1) && (decide ((spNum b p).2.1 ≤ IntKind.i64.wrap ((spNum b p).2.1 + IntKind.i64.wrap (spNum b p).1)) && decide (IntKind.i64.wrap ((spNum b p).2.1 + IntKind.i64.wrap (spNum b p).1) ≤ (b.length : Int))) then bif decide ((List.drop (spNum b p).2.1.toNat (List.take (IntKind.i64.wrap ((spNum b p).2.1 + IntKind.i64.wrap (spNum b p).1)).toNat b)).length ≤ 4294967296) then some (Out.ret (((false, List.drop (spNum b p).2.1.toNat (List.take (IntKind.i64.wrap ((spNum b p).2.1 + IntKind.i64.wrap (spNum b p).1)).toNat b), ()), IntKind.i64.wrap ((spNum b p).2.1 + IntKind.i64.wrap (spNum b p).1), 0, ()), ())) else none else none) = _
  have hr := @spNum_range b p
  by_cases h0 : (spNum b p).2.2 = 0
  · have hk := spNum_ok h0
    rw [bif_false (by simpa using h0)]
    by_cases h1 : (spNum b p).1 < l
    · have e : spTake b p l = ((false, [], ()), 0, 5) := by unfold spTake; rw [if_neg (by simpa using h0), if_pos h1]
      rw [e, bif_true (by simpa using h1)]
      first | done | rfl
    · rw [bif_false (by simpa using h1)]
      by_cases h2 : (spNum b p).1 < 0
      · have e : spTake b p l = ((true, [], ()), (spNum b p).2.1, 0) := by unfold spTake; rw [if_neg (by simpa using h0), if_neg h1, if_pos h2]
        rw [e, bif_true (by simpa using h2)]
      · rw [bif_false (by simpa using h2), wrap_i64 (n := (b.length : Int) - (spNum b p).2.1) (by omega) (by omega), wrap_i64 (n := (spNum b p).1) (by omega) (by omega)]
        by_cases h3 : (b.length : Int) - (spNum b p).2.1 < (spNum b p).1
        · have e : spTake b p l = ((false, [], ()), 0, 1) := by unfold spTake; rw [if_neg (by simpa using h0), if_neg h1, if_neg h2, if_pos h3]
          rw [e, bif_true (by simpa using h3)]
          first | done | rfl
        · have e : spTake b p l = ((false, (b.drop (spNum b p).2.1.toNat).take (spNum b p).1.toNat, ()), (spNum b p).2.1 + (spNum b p).1, 0) := by unfold spTake; rw [if_neg (by simpa using h0), if_neg h1, if_neg h2, if_neg h3]
          rw [e, bif_false (by simpa using h3), wrap_i64 (n := (spNum b p).2.1 + (spNum b p).1) (by omega) (by omega)]
          rw [bif_true (by simp; omega), List.drop_take, show ((spNum b p).2.1 + (spNum b p).1).toNat - (spNum b p).2.1.toNat = (spNum b p).1.toNat by omega, bif_true (by simp; omega)]
  · have e : spTake b p l = ((false, [], ()), 0, (spNum b p).2.2) := by unfold spTake; rw [if_pos h0]
    rw [e, bif_true (by simpa using h0)]

/-! ### leat/leatref07.heads -/
noncomputable abbrev iorheads : Io := ⟨[dL, dI], [], [], [dHeads, dI, dI], none⟩
noncomputable def Frheads (d : iorheads.In) : Tr iorheads.Res := .ret (.ret (((spHeads d.1.1 d.1.2.1).1, (spHeads d.1.1 d.1.2.1).2.1, (spHeads d.1.1 d.1.2.1).2.2, ()), ()))
noncomputable abbrev csrheads : List (Nat × Hc) := [(32, ioHd iorGet32 FrNum), (57, ioHd iortake Frtake), (41, ioHd iorUtf FrUtf)]
noncomputable def hdrheads : Hd := hdT csrheads
noncomputable abbrev lorheads_12 : Lo := ⟨⟨[.one (.hol (.sl 5 (Ty.int IntKind.u8))), .one (.hol (.int IntKind.i64)), .any, .any, .any, .any, .any, .one (.hol (.int IntKind.i32)), .any, .any, .one (.onl 49 (Ty.str.prod ((Ty.bool.prod ((Ty.sl 5 (Ty.int IntKind.u8)).prod Ty.unit)).prod Ty.unit)) 21), .one (.hol (.int IntKind.i64)), .any, .any, .any, .any, .any, .any, .any, .any, .any, .any, .any, .any, .any, .any, .any, .any, .any, .any, .any, .any, .any, .any, .any, .any, .any, .any, .any, .any, .any, .any, .any, .any, .any, .any, .any, .any, .any, .any, .any, .any, .any, .any, .any, .any, .any, .any, .any, .any, .any, .any, .any, .any, .any, .any, .any, .any, .any, .any, .any, .any, .any, .any, .any, .any, .any, .any, .any, .any, .any], []⟩, [(.ret, ⟨[.any, .any, .any, .any, .one (.onl 49 (Ty.str.prod ((Ty.bool.prod ((Ty.sl 5 (Ty.int IntKind.u8)).prod Ty.unit)).prod Ty.unit)) 9), .one (.hol (.int IntKind.i64)), .one (.hol (.int IntKind.i64)), .any, .any, .any, .any, .any, .any, .any, .any, .any, .any, .any, .any, .any, .any, .any, .any, .any, .any, .any, .any, .any, .any, .any, .any, .any, .any, .any, .any, .any, .any, .any, .any, .any, .any, .any, .any, .any, .any, .any, .any, .any, .any, .any, .any, .any, .any, .any, .any, .any, .any, .any, .any, .any, .any, .any, .any, .any, .any, .any, .any, .any, .any, .any, .any, .any, .any, .any, .any, .any, .any, .any, .any, .any, .any], []⟩), (.exit 0, ⟨[.any, .one (.hol (.int IntKind.i64)), .any, .any, .any, .any, .any, .any, .any, .any, .one (.onl 49 (Ty.str.prod ((Ty.bool.prod ((Ty.sl 5 (Ty.int IntKind.u8)).prod Ty.unit)).prod Ty.unit)) 21), .any, .any, .any, .any, .any, .any, .any, .any, .any, .any, .any, .any, .any, .any, .any, .any, .any, .any, .any, .any, .any, .any, .any, .any, .any, .any, .any, .any, .any, .any, .any, .any, .any, .any, .any, .any, .any, .any, .any, .any, .any, .any, .any, .any, .any, .any, .any, .any, .any, .any, .any, .any, .any, .any, .any, .any, .any, .any, .any, .any, .any, .any, .any, .any, .any, .any, .any, .any, .any, .any], []⟩)]⟩
-- Frheads_12 : lorheads_12.st.den → Tr (DenX lorheads_12.xs) | ((h2, (h3, (h4, (h5, (h6, ()))))), ())
noncomputable def Frheads_12 (d : lorheads_12.st.den) : Tr (DenX lorheads_12.xs) :=
  .ite (decide (d.1.2.2.2.2.1 = (0 : Int)) && (decide ((0 : Int) ≤ d.1.2.2.1) && (decide (d.1.2.2.1 ≤ (16 : Int)) && decide (d.1.2.2.2.1 = ([] : List Head)))))
    (.ite (decide ((spHeadsN d.1.1 (d.1.2.2.1 : Int).toNat [] d.1.2.1).2.2 = (0 : Int)))
      (.ret (.pan (.ret ((), (((spHeadsN d.1.1 (d.1.2.2.1 : Int).toNat [] d.1.2.1).2.1, ((spHeadsN d.1.1 (d.1.2.2.1 : Int).toNat [] d.1.2.1).1, ())), ())))))
      (.ret (.ret ((), (([], (0, ((spHeadsN d.1.1 (d.1.2.2.1 : Int).toNat [] d.1.2.1).2.2, ()))), ()))))) .no
noncomputable def lprheads : Lp := lpT [(12, loHd lorheads_12 Frheads_12)]
noncomputable def steprheads_12 {R : Type} (h2 : List Int) (h3 : Int) (h4 : Int) (h5 : List (Ty.str.prod ((Ty.bool.prod ((Ty.sl 5 (Ty.int IntKind.u8)).prod Ty.unit)).prod Ty.unit)).den) (h6 : Int) (next : List Int → Int → Int → List (Ty.str.prod ((Ty.bool.prod ((Ty.sl 5 (Ty.int IntKind.u8)).prod Ty.unit)).prod Ty.unit)).den → Int → Option R) (out : DenX lorheads_12.xs → Option R) : Option R := bif decide (h6 < IntKind.i64.wrap h4) then bif (spTake h2 h3 0).snd.snd != 0 then out (.ret ((), (([], (0, ((spTake h2 h3 0).snd.snd, ()))), ()))) else bif !(spUtf (spTake h2 h3 0).fst.snd.fst).snd then out (.ret ((), (([], (0, (6, ()))), ()))) else bif (spTake h2 (spTake h2 h3 0).snd.fst (-1)).snd.snd != 0 then out (.ret ((), (([], (0, ((spTake h2 (spTake h2 h3 0).snd.fst (-1)).snd.snd, ()))), ()))) else bif decide (h5.length + [((spTake h2 h3 0).fst.snd.fst, ((spTake h2 (spTake h2 h3 0).snd.fst (-1)).fst.fst, (spTake h2 (spTake h2 h3 0).snd.fst (-1)).fst.snd.fst, ()), ())].length ≤ 4294967296) then next (h2) ((spTake h2 (spTake h2 h3 0).snd.fst (-1)).snd.fst) (h4) (h5 ++ [((spTake h2 h3 0).fst.snd.fst, ((spTake h2 (spTake h2 h3 0).snd.fst (-1)).fst.fst, (spTake h2 (spTake h2 h3 0).snd.fst (-1)).fst.snd.fst, ()), ())]) (IntKind.i64.wrap (h6 + 1)) else none else out (.pan (.ret ((), ((h3, (h5, ())), ()))))
noncomputable def itrheads_12 (n : Nat) (h2 : List Int) (h3 : Int) (h4 : Int) (h5 : List (Ty.str.prod ((Ty.bool.prod ((Ty.sl 5 (Ty.int IntKind.u8)).prod Ty.unit)).prod Ty.unit)).den) (h6 : Int) : Option (DenX lorheads_12.xs) := lpN tt hdrheads dr lprheads 0 Go.Proofs.Try.f58 (topL Go.Proofs.Try.f58 0) n (lorheads_12.st.mk' ((h2, (h3, (h4, (h5, (h6, ()))))), ())) (decX lorheads_12.xs)
theorem slrheads_12 (n : Nat) (h2 : List Int) (h3 : Int) (h4 : Int) (h5 : List (Ty.str.prod ((Ty.bool.prod ((Ty.sl 5 (Ty.int IntKind.u8)).prod Ty.unit)).prod Ty.unit)).den) (h6 : Int) : itrheads_12 (n + 1) h2 h3 h4 h5 h6 = steprheads_12 h2 h3 h4 h5 h6 (itrheads_12 n) some := by kernel_rfl
theorem looprheads (b : List Int) (n : Int) (hn : 0 ≤ n) (hn' : n ≤ 16) : ∀ (k m : Nat) (p : Int) (o : List Head) (i : Int), i + m = n → 0 ≤ i → m < k → o.length = i.toNat →
    itrheads_12 k b p n o i = if (spHeadsN b m o p).2.2 = 0 then some (.pan (.ret ((), (((spHeadsN b m o p).2.1, ((spHeadsN b m o p).1, ())), ())))) else some (.ret ((), (([], (0, ((spHeadsN b m o p).2.2, ()))), ()))) := by
  intro k
  induction k with
  | zero => intro m p o i h1 h2 h3; omega
  | succ k ih =>
    intro m p o i h1 h2 h3 h4
    rw [slrheads_12]
    unfold steprheads_12
    rw [wrap_i64 (n := n) (by omega) (by omega)]
    cases m with
    | zero =>
      rw [bif_false (by simp; omega)]
      rw [if_pos (by rfl)]
      first | done | rfl
    | succ m =>
      rw [bif_true (by simp; omega)]
      by_cases a1 : (spTake b p 0).2.2 = 0
      · rw [bif_false (by simpa using a1)]
        by_cases a2 : (spUtf (spTake b p 0).1.2.1).2 = false
        · have e : spHeadsN b (m + 1) o p = ([], 0, 6) := by unfold spHeadsN; rw [if_neg (by simpa using a1), if_pos a2]
          rw [e, bif_true (by simpa using a2)]
          first | done | rfl
        · rw [bif_false (by simpa using a2)]
          by_cases a3 : (spTake b (spTake b p 0).2.1 (-1)).2.2 = 0
          · have e : spHeadsN b (m + 1) o p = spHeadsN b m (o ++ [((spTake b p 0).1.2.1, (spTake b (spTake b p 0).2.1 (-1)).1, ())]) (spTake b (spTake b p 0).2.1 (-1)).2.1 := by
              rw [spHeadsN, if_neg (by simpa using a1), if_neg a2, if_neg (by simpa using a3)]
            rw [e, bif_false (by simpa using a3), bif_true (by simp; omega), wrap_i64 (n := i + 1) (by omega) (by omega)]
            exact ih m _ _ (i + 1) (by omega) (by omega) (by omega) (by simp; omega)
          · have e : spHeadsN b (m + 1) o p = ([], 0, (spTake b (spTake b p 0).2.1 (-1)).2.2) := by rw [spHeadsN, if_neg (by simpa using a1), if_neg a2, if_pos a3]
            rw [e, bif_true (by simpa using a3), if_neg a3]
      · have e : spHeadsN b (m + 1) o p = ([], 0, (spTake b p 0).2.2) := by rw [spHeadsN, if_pos a1]
        rw [e, bif_true (by simpa using a1), if_neg a1]
noncomputable def bodyrheads (a0 : List Int) (a1 : Int) : Option iorheads.Res := bif (spGet 5 15 a0 a1).snd.snd != 0 then some (Out.ret (([], 0, (spGet 5 15 a0 a1).snd.snd, ()), ())) else bif decide (IntKind.i32.wrap (spZag (spGet 5 15 a0 a1).fst) < 0) then some (Out.ret (([], 0, 5, ()), ())) else bif decide (16 < IntKind.i32.wrap (spZag (spGet 5 15 a0 a1).fst)) then some (Out.ret (([], 0, 9, ()), ())) else (Frheads_12 ((a0, ((spGet 5 15 a0 a1).snd.fst, (IntKind.i32.wrap (spZag (spGet 5 15 a0 a1).fst), ([], (0, ()))))), ())).run fun y => match y with | .ret ((), ((x23, x24, x25, ()), ())) => (some (Out.ret ((x23, x24, x25, ()), ()))) | .pan (.ret ((), ((x26, x27, ()), ()))) => (some (Out.ret ((x27, x26, 0, ()), ())))
theorem runrheads (a0 : List Int) (a1 : Int) : Io.run tt hdrheads dr lprheads iorheads Go.Proofs.Try.f58 ((a0, a1, ()), ()) = bodyrheads a0 a1 := by kernel_rfl
theorem okrheads : HcOk prog 58 (ioHd iorheads Frheads) := by
  refine fn_sound (n := 400) hm (cs := csrheads) (.cons okrNum (.cons okrtake (.cons okrUtf .nil))) (lp := lprheads) (fn := Go.Proofs.Try.f58) (by kernel_rfl) (by kernel_rfl) (by kernel_rfl) iorheads
    (.step (h0 := loHd lorheads_12 Frheads_12) (by kernel_rfl) (loop_sound (n := 400) hm (cs := csrheads) (.cons okrNum (.cons okrtake (.cons okrUtf .nil))) (lp := lprheads) (fn := Go.Proofs.Try.f58) (.done (by kernel_rfl)) lorheads_12 Frheads_12 ?_) (.done (by kernel_rfl))) Frheads ?_
  · rintro ⟨⟨(b : List Int), (p : Int), (n : Int), (o : List Head), (i : Int), ⟨⟩⟩, ⟨⟩⟩ y hw hy
    obtain ⟨hg, hy⟩ := Tr.guard hy
    simp only [Bool.and_eq_true, decide_eq_true_eq] at hg
    obtain ⟨hi, h0, h16, ho⟩ := hg
    have hi : i = 0 := hi
    have h0 : 0 ≤ n := h0
    have h16 : n ≤ 16 := h16
    have ho : o = [] := ho
    subst hi ho
    refine ⟨n.toNat + 1, (looprheads b n h0 h16 _ n.toNat p [] 0 (by omega) (by omega) (by omega) rfl).trans ?_⟩
    rw [← hy]
    simp only [Tr.val_ite, decide_eq_true_eq, Tr.val_ret]
  · rintro ⟨⟨(b : List Int), (p : Int), ⟨⟩⟩, ⟨⟩⟩ out hw ho
    cases ho
    refine (runrheads b p).trans ?_
    show _ = some (Out.ret (((spHeads b p).1, (spHeads b p).2.1, (spHeads b p).2.2, ()), ()))
    have hr := @spNum_range b p
    unfold bodyrheads
    by_cases h0 : (spNum b p).2.2 = 0
    · have h0' : (spGet 5 15 b p).2.2 = 0 := h0
      rw [bif_false (by simpa using h0')]
      change (bif decide ((spNum b p).1 < 0) then _ else bif decide (16 < (spNum b p).1) then _ else (Frheads_12 ((b, ((spNum b p).2.1, ((spNum b p).1, ([], (0, ()))))), ())).run _) = _
      by_cases h1 : (spNum b p).1 < 0
      · have e : spHeads b p = ([], 0, 5) := by unfold spHeads; rw [if_neg (by simpa using h0), if_pos h1]
        rw [e, bif_true (by simpa using h1)]
        first | done | rfl
      · rw [bif_false (by simpa using h1)]
        by_cases h2 : 16 < (spNum b p).1
        · have e : spHeads b p = ([], 0, 9) := by unfold spHeads; rw [if_neg (by simpa using h0), if_neg h1, if_pos h2]
          rw [e, bif_true (by simpa using h2)]
          first | done | rfl
        · have e : spHeads b p = spHeadsN b (spNum b p).1.toNat [] (spNum b p).2.1 := by unfold spHeads; rw [if_neg (by simpa using h0), if_neg h1, if_neg h2]
          rw [e, bif_false (by simpa using h2)]
          unfold Frheads_12
          simp only [Tr.run_ite, Tr.run_ret]
          have hg : (decide True && (decide ((0 : Int) ≤ (spNum b p).1) && (decide ((spNum b p).1 ≤ (16 : Int)) && decide True))) = true := by
            simp only [Bool.and_eq_true, decide_eq_true_eq]
            exact ⟨trivial, by omega, by omega, trivial⟩
          rw [if_pos hg]
          by_cases h3 : (spHeadsN b (spNum b p).1.toNat [] (spNum b p).2.1).2.2 = 0
          · rw [if_pos (by simpa using h3), h3]
          · obtain ⟨e1, e2⟩ := spHeadsN_err b _ _ _ h3
            rw [if_neg (by simpa using h3), e1, e2]
    · have h0' : (spGet 5 15 b p).2.2 ≠ 0 := h0
      have e : spHeads b p = ([], 0, (spGet 5 15 b p).2.2) := by unfold spHeads; rw [if_pos h0]; rfl
      rw [e, bif_true (by simpa using h0')]

/-! ### leat/leatref07.row -/
noncomputable abbrev iorrow : Io := ⟨[dL], [], [], [dRow, dI], none⟩
noncomputable def Frrow (d : iorrow.In) : Tr iorrow.Res := .ret (.ret (((spRow d.1.1).1, (spRow d.1.1).2, ()), ()))
noncomputable abbrev csrrow : List (Nat × Hc) := [(56, ioHd iorGet FrLong), (32, ioHd iorGet32 FrNum), (57, ioHd iortake Frtake), (58, ioHd iorheads Frheads)]
noncomputable def hdrrow : Hd := hdT csrrow
noncomputable def lprrow : Lp := lpT []

noncomputable def bodyrrow (a0 : List Int) : Option iorrow.Res := bif (↑a0.length : Int) == 0 then some (Out.ret (((0, 0, (false, [], ()), (false, [], ()), [], ()), 1, ()), ())) else bif decide (0 ≤ 0) && decide (0 < (↑a0.length : Int)) then bif a0.getD (Int.toNat 0) 0 != 0 then some (Out.ret (((0, 0, (false, [], ()), (false, [], ()), [], ()), 71, ()), ())) else bif (spGet 10 1 a0 1).snd.snd != 0 then some (Out.ret (((0, 0, (false, [], ()), (false, [], ()), [], ()), (spGet 10 1 a0 1).snd.snd, ()), ())) else bif (spGet 5 15 a0 (spGet 10 1 a0 1).snd.fst).snd.snd != 0 then some (Out.ret (((0, 0, (false, [], ()), (false, [], ()), [], ()), (spGet 5 15 a0 (spGet 10 1 a0 1).snd.fst).snd.snd, ()), ())) else bif decide (IntKind.i32.wrap (spZag (spGet 5 15 a0 (spGet 10 1 a0 1).snd.fst).fst) < 0) then some (Out.ret (((0, 0, (false, [], ()), (false, [], ()), [], ()), 72, ()), ())) else bif (spTake a0 (spGet 5 15 a0 (spGet 10 1 a0 1).snd.fst).snd.fst (-1)).snd.snd != 0 then some (Out.ret (((0, 0, (false, [], ()), (false, [], ()), [], ()), (spTake a0 (spGet 5 15 a0 (spGet 10 1 a0 1).snd.fst).snd.fst (-1)).snd.snd, ()), ())) else bif (spTake a0 (spTake a0 (spGet 5 15 a0 (spGet 10 1 a0 1).snd.fst).snd.fst (-1)).snd.fst (-1)).snd.snd != 0 then some (Out.ret (((0, 0, (false, [], ()), (false, [], ()), [], ()), (spTake a0 (spTake a0 (spGet 5 15 a0 (spGet 10 1 a0 1).snd.fst).snd.fst (-1)).snd.fst (-1)).snd.snd, ()), ())) else bif (spHeads a0 (spTake a0 (spTake a0 (spGet 5 15 a0 (spGet 10 1 a0 1).snd.fst).snd.fst (-1)).snd.fst (-1)).snd.fst).snd.snd != 0 then some (Out.ret (((0, 0, (false, [], ()), (false, [], ()), [], ()), (spHeads a0 (spTake a0 (spTake a0 (spGet 5 15 a0 (spGet 10 1 a0 1).snd.fst).snd.fst (-1)).snd.fst (-1)).snd.fst).snd.snd, ()), ())) else bif decide ((spHeads a0 (spTake a0 (spTake a0 (spGet 5 15 a0 (spGet 10 1 a0 1).snd.fst).snd.fst (-1)).snd.fst (-1)).snd.fst).snd.fst < (↑a0.length : Int)) then some (Out.ret (((0, 0, (false, [], ()), (false, [], ()), [], ()), 2, ()), ())) else some (Out.ret (((spZag (spGet 10 1 a0 1).fst, IntKind.i32.wrap (spZag (spGet 5 15 a0 (spGet 10 1 a0 1).snd.fst).fst), ((spTake a0 (spGet 5 15 a0 (spGet 10 1 a0 1).snd.fst).snd.fst (-1)).fst.fst, (spTake a0 (spGet 5 15 a0 (spGet 10 1 a0 1).snd.fst).snd.fst (-1)).fst.snd.fst, ()), ((spTake a0 (spTake a0 (spGet 5 15 a0 (spGet 10 1 a0 1).snd.fst).snd.fst (-1)).snd.fst (-1)).fst.fst, (spTake a0 (spTake a0 (spGet 5 15 a0 (spGet 10 1 a0 1).snd.fst).snd.fst (-1)).snd.fst (-1)).fst.snd.fst, ()), (spHeads a0 (spTake a0 (spTake a0 (spGet 5 15 a0 (spGet 10 1 a0 1).snd.fst).snd.fst (-1)).snd.fst (-1)).snd.fst).fst, ()), 0, ()), ())) else none
theorem runrrow (a0 : List Int) : Io.run tt hdrrow dr lprrow iorrow Go.Proofs.Try.f33 ((a0, ()), ()) = bodyrrow a0 := by kernel_rfl
theorem okrrow : HcOk prog 33 (ioHd iorrow Frrow) := by
  refine fn_sound (n := 400) hm (cs := csrrow) (.cons okrLong (.cons okrNum (.cons okrtake (.cons okrheads .nil)))) (lp := lprrow) (fn := Go.Proofs.Try.f33) (by kernel_rfl) (by kernel_rfl) (by kernel_rfl) iorrow (.done (by kernel_rfl)) Frrow ?_
  rintro ⟨⟨(b : List Int), ⟨⟩⟩, ⟨⟩⟩ out hw ho
  cases ho
  refine (runrrow b).trans ?_
  show _ = some (Out.ret (((spRow b).1, (spRow b).2, ()), ()))
  unfold bodyrrow
  by_cases h0 : b.length = 0
  · have e : spRow b = (spNone, 1) := by unfold spRow; rw [if_pos h0]
    rw [e, bif_true (by simp [h0])]
    first | done | rfl
  rw [bif_false (beq_false_of_ne (by omega)), bif_true (by rw [Bool.and_eq_true, decide_eq_true_eq, decide_eq_true_eq]; omega)]
  by_cases h1 : b.getD 0 0 = 0
  rotate_left
  · have e : spRow b = (spNone, 71) := by unfold spRow; rw [if_neg h0, if_pos h1]
    have h1' : b.getD (Int.toNat 0) 0 ≠ 0 := h1
    rw [e, bif_true (by simpa using h1')]
    first | done | rfl
  have h1' : b.getD (Int.toNat 0) 0 = 0 := h1
  rw [bif_false (by simpa using h1')]
  by_cases h2 : (spGet 10 1 b 1).2.2 = 0
  rotate_left
  · have e : spRow b = (spNone, (spGet 10 1 b 1).2.2) := by unfold spRow; rw [if_neg h0, if_neg (by simpa using h1), if_pos h2]
    rw [e, bif_true (by simpa using h2)]
    first | done | rfl
  rw [bif_false (by simpa using h2)]
  generalize hq1 : (spGet 10 1 b 1).2.1 = q1
  change (bif (spNum b q1).2.2 != 0 then some (Out.ret ((spNone, (spNum b q1).2.2, ()), ())) else bif decide ((spNum b q1).1 < 0) then some (Out.ret ((spNone, 72, ()), ())) else bif (spTake b (spNum b q1).2.1 (-1)).2.2 != 0 then some (Out.ret ((spNone, (spTake b (spNum b q1).2.1 (-1)).2.2, ()), ())) else
    bif (spTake b (spTake b (spNum b q1).2.1 (-1)).2.1 (-1)).2.2 != 0 then some (Out.ret ((spNone, (spTake b (spTake b (spNum b q1).2.1 (-1)).2.1 (-1)).2.2, ()), ())) else
    bif (spHeads b (spTake b (spTake b (spNum b q1).2.1 (-1)).2.1 (-1)).2.1).2.2 != 0 then some (Out.ret ((spNone, (spHeads b (spTake b (spTake b (spNum b q1).2.1 (-1)).2.1 (-1)).2.1).2.2, ()), ())) else
    bif decide ((spHeads b (spTake b (spTake b (spNum b q1).2.1 (-1)).2.1 (-1)).2.1).2.1 < (b.length : Int)) then some (Out.ret ((spNone, 2, ()), ())) else
    some (Out.ret (((spZag (spGet 10 1 b 1).1, (spNum b q1).1, (spTake b (spNum b q1).2.1 (-1)).1, (spTake b (spTake b (spNum b q1).2.1 (-1)).2.1 (-1)).1, (spHeads b (spTake b (spTake b (spNum b q1).2.1 (-1)).2.1 (-1)).2.1).1, ()), 0, ()), ()))) = _
  have e : spRow b = if (spNum b q1).2.2 ≠ 0 then (spNone, (spNum b q1).2.2) else if (spNum b q1).1 < 0 then (spNone, 72) else if (spTake b (spNum b q1).2.1 (-1)).2.2 ≠ 0 then (spNone, (spTake b (spNum b q1).2.1 (-1)).2.2) else
    if (spTake b (spTake b (spNum b q1).2.1 (-1)).2.1 (-1)).2.2 ≠ 0 then (spNone, (spTake b (spTake b (spNum b q1).2.1 (-1)).2.1 (-1)).2.2) else
    if (spHeads b (spTake b (spTake b (spNum b q1).2.1 (-1)).2.1 (-1)).2.1).2.2 ≠ 0 then (spNone, (spHeads b (spTake b (spTake b (spNum b q1).2.1 (-1)).2.1 (-1)).2.1).2.2) else
    if (spHeads b (spTake b (spTake b (spNum b q1).2.1 (-1)).2.1 (-1)).2.1).2.1 < (b.length : Int) then (spNone, 2) else
    ((spZag (spGet 10 1 b 1).1, (spNum b q1).1, (spTake b (spNum b q1).2.1 (-1)).1, (spTake b (spTake b (spNum b q1).2.1 (-1)).2.1 (-1)).1, (spHeads b (spTake b (spTake b (spNum b q1).2.1 (-1)).2.1 (-1)).2.1).1, ()), 0) := by
    unfold spRow; rw [if_neg h0, if_neg (by simpa using h1), if_neg (by simpa using h2), hq1]
  rw [e]
  generalize spNum b q1 = n1
  generalize spTake b n1.2.1 (-1) = n2
  generalize spTake b n2.2.1 (-1) = n3
  generalize spHeads b n3.2.1 = n4
  simp only [cond_eq_ite, bne_iff_ne, decide_eq_true_eq]
  split
  · rfl
  split
  · rfl
  split
  · rfl
  split
  · rfl
  split
  · rfl
  split
  · rfl
  first | done | rfl

/-! ### leat/leatref07.Get -/
noncomputable abbrev iorRGet : Io := ⟨[dL, dI], [], [], [dRow, dI, dI], none⟩
noncomputable def FrRGet (d : iorRGet.In) : Tr iorRGet.Res := .ret (.ret (((spRec d.1.1 d.1.2.1).1, (spRec d.1.1 d.1.2.1).2.1, (spRec d.1.1 d.1.2.1).2.2, ()), ()))
noncomputable abbrev csrRGet : List (Nat × Hc) := [(32, ioHd iorGet32 FrNum), (33, ioHd iorrow Frrow)]
noncomputable def hdrRGet : Hd := hdT csrRGet
noncomputable def lprRGet : Lp := lpT []

noncomputable def bodyrRGet (a0 : List Int) (a1 : Int) : Option iorRGet.Res := bif (spGet 5 15 a0 a1).snd.snd != 0 then some (Out.ret (((0, 0, (false, [], ()), (false, [], ()), [], ()), 0, (spGet 5 15 a0 a1).snd.snd, ()), ())) else bif decide (IntKind.i32.wrap (spZag (spGet 5 15 a0 a1).fst) < 0) then some (Out.ret (((0, 0, (false, [], ()), (false, [], ()), [], ()), 0, 5, ()), ())) else bif decide (16384 < IntKind.i32.wrap (spZag (spGet 5 15 a0 a1).fst)) then some (Out.ret (((0, 0, (false, [], ()), (false, [], ()), [], ()), 0, 4, ()), ())) else bif decide (IntKind.i64.wrap ((↑a0.length : Int) - (spGet 5 15 a0 a1).snd.fst) < IntKind.i64.wrap (IntKind.i32.wrap (spZag (spGet 5 15 a0 a1).fst))) then some (Out.ret (((0, 0, (false, [], ()), (false, [], ()), [], ()), 0, 1, ()), ())) else bif decide (0 ≤ (spGet 5 15 a0 a1).snd.fst) && (decide ((spGet 5 15 a0 a1).snd.fst ≤ IntKind.i64.wrap ((spGet 5 15 a0 a1).snd.fst + IntKind.i64.wrap (IntKind.i32.wrap (spZag (spGet 5 15 a0 a1).fst)))) && decide (IntKind.i64.wrap ((spGet 5 15 a0 a1).snd.fst + IntKind.i64.wrap (IntKind.i32.wrap (spZag (spGet 5 15 a0 a1).fst))) ≤ (↑a0.length : Int))) then bif (spRow (List.drop (spGet 5 15 a0 a1).snd.fst.toNat (List.take (IntKind.i64.wrap ((spGet 5 15 a0 a1).snd.fst + IntKind.i64.wrap (IntKind.i32.wrap (spZag (spGet 5 15 a0 a1).fst)))).toNat a0))).snd != 0 then some (Out.ret (((0, 0, (false, [], ()), (false, [], ()), [], ()), 0, (spRow (List.drop (spGet 5 15 a0 a1).snd.fst.toNat (List.take (IntKind.i64.wrap ((spGet 5 15 a0 a1).snd.fst + IntKind.i64.wrap (IntKind.i32.wrap (spZag (spGet 5 15 a0 a1).fst)))).toNat a0))).snd, ()), ())) else some (Out.ret ((((spRow (List.drop (spGet 5 15 a0 a1).snd.fst.toNat (List.take (IntKind.i64.wrap ((spGet 5 15 a0 a1).snd.fst + IntKind.i64.wrap (IntKind.i32.wrap (spZag (spGet 5 15 a0 a1).fst)))).toNat a0))).fst.fst, (spRow (List.drop (spGet 5 15 a0 a1).snd.fst.toNat (List.take (IntKind.i64.wrap ((spGet 5 15 a0 a1).snd.fst + IntKind.i64.wrap (IntKind.i32.wrap (spZag (spGet 5 15 a0 a1).fst)))).toNat a0))).fst.snd.fst, ((spRow (List.drop (spGet 5 15 a0 a1).snd.fst.toNat (List.take (IntKind.i64.wrap ((spGet 5 15 a0 a1).snd.fst + IntKind.i64.wrap (IntKind.i32.wrap (spZag (spGet 5 15 a0 a1).fst)))).toNat a0))).fst.snd.snd.fst.fst, (spRow (List.drop (spGet 5 15 a0 a1).snd.fst.toNat (List.take (IntKind.i64.wrap ((spGet 5 15 a0 a1).snd.fst + IntKind.i64.wrap (IntKind.i32.wrap (spZag (spGet 5 15 a0 a1).fst)))).toNat a0))).fst.snd.snd.fst.snd.fst, ()), ((spRow (List.drop (spGet 5 15 a0 a1).snd.fst.toNat (List.take (IntKind.i64.wrap ((spGet 5 15 a0 a1).snd.fst + IntKind.i64.wrap (IntKind.i32.wrap (spZag (spGet 5 15 a0 a1).fst)))).toNat a0))).fst.snd.snd.snd.fst.fst, (spRow (List.drop (spGet 5 15 a0 a1).snd.fst.toNat (List.take (IntKind.i64.wrap ((spGet 5 15 a0 a1).snd.fst + IntKind.i64.wrap (IntKind.i32.wrap (spZag (spGet 5 15 a0 a1).fst)))).toNat a0))).fst.snd.snd.snd.fst.snd.fst, ()), (spRow (List.drop (spGet 5 15 a0 a1).snd.fst.toNat (List.take (IntKind.i64.wrap ((spGet 5 15 a0 a1).snd.fst + IntKind.i64.wrap (IntKind.i32.wrap (spZag (spGet 5 15 a0 a1).fst)))).toNat a0))).fst.snd.snd.snd.snd.fst, ()), IntKind.i64.wrap ((spGet 5 15 a0 a1).snd.fst + IntKind.i64.wrap (IntKind.i32.wrap (spZag (spGet 5 15 a0 a1).fst))), 0, ()), ())) else none
theorem runrRGet (a0 : List Int) (a1 : Int) : Io.run tt hdrRGet dr lprRGet iorRGet Go.Proofs.Try.f12 ((a0, a1, ()), ()) = bodyrRGet a0 a1 := by kernel_rfl
theorem okrRGet : HcOk prog 12 (ioHd iorRGet FrRGet) := by
  refine fn_sound (n := 400) hm (cs := csrRGet) (.cons okrNum (.cons okrrow .nil)) (lp := lprRGet) (fn := Go.Proofs.Try.f12) (by kernel_rfl) (by kernel_rfl) (by kernel_rfl) iorRGet (.done (by kernel_rfl)) FrRGet ?_
  rintro ⟨⟨(b : List Int), (p : Int), ⟨⟩⟩, ⟨⟩⟩ out hw ho
  cases ho
  refine (runrRGet b p).trans ?_
  have hb : b.length ≤ maxLen := hw.1.1.1
  rw [maxLen_eq] at hb
  show _ = some (Out.ret (((spRec b p).1, (spRec b p).2.1, (spRec b p).2.2, ()), ()))
  have hr := @spNum_range b p
  unfold bodyrRGet
  by_cases h0 : (spNum b p).2.2 = 0
  rotate_left
  · have h0' : (spGet 5 15 b p).2.2 ≠ 0 := h0
    have e : spRec b p = (spNone, 0, (spGet 5 15 b p).2.2) := by unfold spRec; rw [if_pos h0]; rfl
    rw [e, bif_true (by simpa using h0')]
    first | done | rfl
  have hk := spNum_ok h0
  have h0' : (spGet 5 15 b p).2.2 = 0 := h0
  rw [bif_false (by simpa using h0')]
  generalize hq : (spGet 5 15 b p).2.1 = q
  generalize hn : IntKind.wrap .i32 (spZag (spGet 5 15 b p).1) = n
  have hq : (spNum b p).2.1 = q := hq
  have hn : (spNum b p).1 = n := hn
  have e0 : spRec b p = if n < 0 then (spNone, 0, 5) else if 16384 < n then (spNone, 0, 4) else if (b.length : Int) - q < n then (spNone, 0, 1)
      else if (spRow ((b.drop q.toNat).take n.toNat)).2 ≠ 0 then (spNone, 0, (spRow ((b.drop q.toNat).take n.toNat)).2)
      else ((spRow ((b.drop q.toNat).take n.toNat)).1, q + n, 0) := by unfold spRec; rw [if_neg (by simpa using h0), hq, hn]
  rw [e0]
  rw [hq] at hk
  rw [hn] at hr
  by_cases h1 : n < 0
  · rw [bif_true (by simpa using h1), if_pos h1]
    first | done | rfl
  rw [bif_false (by simpa using h1), if_neg h1]
  by_cases h2 : 16384 < n
  · rw [bif_true (by simpa using h2), if_pos h2]
    first | done | rfl
  rw [bif_false (by simpa using h2), if_neg h2, wrap_i64 (n := (b.length : Int) - q) (by omega) (by omega), wrap_i64 (n := n) (by omega) (by omega)]
  by_cases h3 : (b.length : Int) - q < n
  · rw [bif_true (by simpa using h3), if_pos h3]
    first | done | rfl
  rw [bif_false (by simpa using h3), if_neg h3, wrap_i64 (n := q + n) (by omega) (by omega), bif_true (by simp; omega), List.drop_take, show (q + n).toNat - q.toNat = n.toNat by omega]
  generalize spRow ((b.drop q.toNat).take n.toNat) = r
  simp only [cond_eq_ite, bne_iff_ne, decide_eq_true_eq]
  split
  · rfl
  · rfl

end
end Go.Proofs.Ytnppjkijhcampaa.Sym

/- strings.HasPrefix, label.Utf. -/
namespace Go.Proofs.Ytnppjkijhcampaa.Sym
open Go
set_option linter.unusedSimpArgs false
set_option linter.unusedVariables false
noncomputable section

noncomputable abbrev dS : Sh := .dat .str false false
noncomputable def spPre (s p : List Int) : Bool := decide (s.take p.length = p)
theorem mkStr_get {s : List Int} (hs : byteR s) (k : Nat) : ((mkStr s).get! k).toNat = (s.getD k 0).toNat := by
  by_cases h : k < s.length
  · have h1 : (mkStr s).get! k = UInt8.ofNat (s[k]).toNat := by
      have : k < (mkStr s).data.size := by simp [mkStr, h]
      have e : (mkStr s).get! k = (mkStr s).data[k] := getElem!_pos (mkStr s).data k this
      rw [e]
      simp [mkStr]
    rw [h1, getD_lt h]
    have := hs s[k] (List.getElem_mem h)
    rw [UInt8.toNat_ofNat', Nat.mod_eq_of_lt (by omega)]
  · have h1 : (mkStr s).get! k = 0 := by
      have : ¬ k < (mkStr s).data.size := by simp [mkStr]; omega
      have e : (mkStr s).get! k = default := getElem!_neg (mkStr s).data k this
      rw [e]
      rfl
    rw [h1, List.getD_eq_getElem?_getD, List.getElem?_eq_none (by omega)]
    rfl
/-- A character by its bytes. -/
def chN (r1 r2 r3 : Prop) [Decidable r1] [Decidable r2] [Decidable r3] (x0 x1 x2 x3 : Nat) : Nat :=
  if x0 < 128 then 1
  else if x0 < 194 ∨ 244 < x0 ∨ ¬ (r1 ∧ (if x0 = 240 then 144 else if x0 = 224 then 160 else 128) ≤ x1 ∧ x1 ≤ (if x0 = 244 then 143 else if x0 = 237 then 159 else 191)) then 0
  else if x0 < 224 then 2
  else if ¬ (r2 ∧ 128 ≤ x2 ∧ x2 ≤ 191) then 0
  else if x0 < 240 then 3
  else if ¬ (r3 ∧ 128 ≤ x3 ∧ x3 ≤ 191) then 0 else 4
theorem spChar_N {b : List Int} (hs : byteR b) {n : Nat} (h : n < b.length) : spChar b n = (chN (n + 1 < b.length) (n + 2 < b.length) (n + 3 < b.length) (b.getD n 0).toNat (b.getD (n + 1) 0).toNat (b.getD (n + 2) 0).toNat (b.getD (n + 3) 0).toNat : Int) := by
  have hr : ∀ k, 0 ≤ b.getD k 0 ∧ b.getD k 0 < 256 := fun k => by
    by_cases hk : k < b.length
    · rw [getD_lt hk]; exact hs _ (List.getElem_mem hk)
    · rw [List.getD_eq_getElem?_getD, List.getElem?_eq_none (by omega)]; simp
  unfold spChar chN spIn spLoOf spHiOf
  have e1 : ((n : Int) + 1).toNat = n + 1 := by omega
  have e2 : ((n : Int) + 2).toNat = n + 2 := by omega
  have e3 : ((n : Int) + 3).toNat = n + 3 := by omega
  rw [e1, e2, e3, Int.toNat_natCast]
  have h0 := hr n
  have h1 := hr (n + 1)
  have h2 := hr (n + 2)
  have h3 := hr (n + 3)
  generalize b.getD n 0 = y0 at *
  generalize b.getD (n + 1) 0 = y1 at *
  generalize b.getD (n + 2) 0 = y2 at *
  generalize b.getD (n + 3) 0 = y3 at *
  obtain ⟨x0, rfl⟩ := toNat_of h0.1
  obtain ⟨x1, rfl⟩ := toNat_of h1.1
  obtain ⟨x2, rfl⟩ := toNat_of h2.1
  obtain ⟨x3, rfl⟩ := toNat_of h3.1
  generalize b.length = L at *
  rw [if_neg (by omega)]
  simp only [Bool.and_eq_false_iff, decide_eq_false_iff_not, Int.toNat_natCast]
  by_cases a0 : x0 < 128
  · rw [if_pos (by omega), if_pos a0]; rfl
  rw [if_neg (by omega), if_neg a0]
  have hi : (if (x0 : Int) = 240 then (144 : Int) else if (x0 : Int) = 224 then 160 else 128) = ((if x0 = 240 then 144 else if x0 = 224 then 160 else 128 : Nat) : Int) := by
    repeat' split
    all_goals omega
  have hj : (if (x0 : Int) = 244 then (143 : Int) else if (x0 : Int) = 237 then 159 else 191) = ((if x0 = 244 then 143 else if x0 = 237 then 159 else 191 : Nat) : Int) := by
    repeat' split
    all_goals omega
  rw [hi, hj]
  generalize (if x0 = 240 then 144 else if x0 = 224 then 160 else 128 : Nat) = lo
  generalize (if x0 = 244 then 143 else if x0 = 237 then 159 else 191 : Nat) = hi
  by_cases a1 : x0 < 194 ∨ 244 < x0 ∨ ¬ (n + 1 < L ∧ lo ≤ x1 ∧ x1 ≤ hi)
  · rw [if_pos a1, if_pos (by omega)]; rfl
  rw [if_neg a1, if_neg (by omega)]
  by_cases a2 : x0 < 224
  · rw [if_pos a2, if_pos (by omega)]; rfl
  rw [if_neg a2, if_neg (by omega)]
  by_cases a3 : ¬ (n + 2 < L ∧ 128 ≤ x2 ∧ x2 ≤ 191)
  · rw [if_pos a3, if_pos (by omega)]; rfl
  rw [if_neg a3, if_neg (by omega)]
  by_cases a4 : x0 < 240
  · rw [if_pos a4, if_pos (by omega)]; rfl
  rw [if_neg a4, if_neg (by omega)]
  by_cases a5 : ¬ (n + 3 < L ∧ 128 ≤ x3 ∧ x3 ≤ 191)
  · rw [if_pos a5, if_pos (by omega)]; rfl
  rw [if_neg a5, if_neg (by omega)]; rfl
/-- A rune by its bytes. -/
def ruN (r1 r2 r3 : Prop) [Decidable r1] [Decidable r2] [Decidable r3] (x0 x1 x2 x3 : Nat) : Nat × Nat :=
  if x0 < 128 then (x0, 1)
  else if x0 / 32 = 6 ∧ (r1 ∧ x1 / 64 = 2) then (if 128 ≤ (x0 % 32) * 64 + x1 % 64 then ((x0 % 32) * 64 + x1 % 64, 2) else (65533, 1))
  else if (x0 / 16 = 14 ∧ (r1 ∧ x1 / 64 = 2)) ∧ (r2 ∧ x2 / 64 = 2) then
    (if 2048 ≤ (x0 % 16) * 4096 + (x1 % 64) * 64 + x2 % 64 ∧ ((x0 % 16) * 4096 + (x1 % 64) * 64 + x2 % 64 < 55296 ∨ 57344 ≤ (x0 % 16) * 4096 + (x1 % 64) * 64 + x2 % 64) then ((x0 % 16) * 4096 + (x1 % 64) * 64 + x2 % 64, 3) else (65533, 1))
  else if ((x0 / 8 = 30 ∧ (r1 ∧ x1 / 64 = 2)) ∧ (r2 ∧ x2 / 64 = 2)) ∧ (r3 ∧ x3 / 64 = 2) then
    (if 65536 ≤ (x0 % 8) * 262144 + (x1 % 64) * 4096 + (x2 % 64) * 64 + x3 % 64 ∧ (x0 % 8) * 262144 + (x1 % 64) * 4096 + (x2 % 64) * 64 + x3 % 64 ≤ 1114111 then ((x0 % 8) * 262144 + (x1 % 64) * 4096 + (x2 % 64) * 64 + x3 % 64, 4) else (65533, 1))
  else (65533, 1)
theorem valid3 {c : Nat} (h : c < 65536) : Utf8.valid (c : Int) = true ↔ (c < 55296 ∨ 57344 ≤ c) := by
  simp only [Utf8.valid, Bool.or_eq_true, Bool.and_eq_true, decide_eq_true_eq]; omega
theorem valid4 {c : Nat} (h : 65536 ≤ c) : Utf8.valid (c : Int) = true ↔ c ≤ 1114111 := by
  simp only [Utf8.valid, Bool.or_eq_true, Bool.and_eq_true, decide_eq_true_eq]; omega
theorem decode_N {b : List Int} (hs : byteR b) (n : Nat) : Utf8.decode (mkStr b) n = ruN (n + 1 < b.length) (n + 2 < b.length) (n + 3 < b.length) (b.getD n 0).toNat (b.getD (n + 1) 0).toNat (b.getD (n + 2) 0).toNat (b.getD (n + 3) 0).toNat := by
  unfold Utf8.decode ruN Utf8.runeError
  simp only [mkStr_get hs, mkStr_size, Nat.add_zero]
  generalize (b.getD n 0).toNat = x0
  generalize (b.getD (n + 1) 0).toNat = x1
  generalize (b.getD (n + 2) 0).toNat = x2
  generalize (b.getD (n + 3) 0).toNat = x3
  simp only [Bool.and_eq_true, decide_eq_true_eq, beq_iff_eq, ge_iff_le]
  congr 1
  congr 1
  congr 1
  · congr 1
    apply propext
    constructor
    · rintro ⟨h1, h2⟩; exact ⟨h1, (valid3 (by omega)).1 h2⟩
    · rintro ⟨h1, h2⟩; exact ⟨h1, (valid3 (by omega)).2 h2⟩
  · congr 1
    congr 1
    apply propext
    constructor
    · rintro ⟨h1, h2⟩; exact ⟨h1, (valid4 h1).1 h2⟩
    · rintro ⟨h1, h2⟩; exact ⟨h1, (valid4 h1).2 h2⟩
theorem ru2 {x0 x1 : Nat} (h0 : x0 < 256) (h1 : x1 < 256) : (x0 / 32 = 6 ∧ x1 / 64 = 2) ∧ 128 ≤ (x0 % 32) * 64 + x1 % 64 ↔ 194 ≤ x0 ∧ x0 < 224 ∧ 128 ≤ x1 ∧ x1 ≤ 191 := by omega
theorem ru3 {x0 x1 x2 : Nat} (h0 : x0 < 256) (h1 : x1 < 256) (h2 : x2 < 256) : ((x0 / 16 = 14 ∧ x1 / 64 = 2) ∧ x2 / 64 = 2) ∧ (2048 ≤ (x0 % 16) * 4096 + (x1 % 64) * 64 + x2 % 64 ∧ ((x0 % 16) * 4096 + (x1 % 64) * 64 + x2 % 64 < 55296 ∨ 57344 ≤ (x0 % 16) * 4096 + (x1 % 64) * 64 + x2 % 64)) ↔
    224 ≤ x0 ∧ x0 < 240 ∧ ((if x0 = 224 then 160 else 128) ≤ x1 ∧ x1 ≤ (if x0 = 237 then 159 else 191)) ∧ 128 ≤ x2 ∧ x2 ≤ 191 := by
  constructor
  · rintro ⟨⟨⟨h3, h4⟩, h5⟩, h6⟩
    refine ⟨by omega, by omega, ⟨?_, ?_⟩, by omega, by omega⟩
    · split <;> omega
    · split <;> omega
  · rintro ⟨h3, h4, ⟨h5, h6⟩, h7, h8⟩
    split at h5 <;> split at h6 <;> omega
theorem ru4 {x0 x1 x2 x3 : Nat} (h0 : x0 < 256) (h1 : x1 < 256) (h2 : x2 < 256) (h3 : x3 < 256) : (((x0 / 8 = 30 ∧ x1 / 64 = 2) ∧ x2 / 64 = 2) ∧ x3 / 64 = 2) ∧ (65536 ≤ (x0 % 8) * 262144 + (x1 % 64) * 4096 + (x2 % 64) * 64 + x3 % 64 ∧ (x0 % 8) * 262144 + (x1 % 64) * 4096 + (x2 % 64) * 64 + x3 % 64 ≤ 1114111) ↔
    240 ≤ x0 ∧ x0 ≤ 244 ∧ ((if x0 = 240 then 144 else 128) ≤ x1 ∧ x1 ≤ (if x0 = 244 then 143 else 191)) ∧ (128 ≤ x2 ∧ x2 ≤ 191) ∧ (128 ≤ x3 ∧ x3 ≤ 191) := by
  constructor
  · rintro ⟨⟨⟨⟨h3, h4⟩, h5⟩, h6⟩, h7⟩
    refine ⟨by omega, by omega, ⟨?_, ?_⟩, ⟨by omega, by omega⟩, by omega, by omega⟩
    · split <;> omega
    · split <;> omega
  · rintro ⟨h3, h4, ⟨h5, h6⟩, ⟨h7, h8⟩, h9, h10⟩
    split at h5 <;> split at h6 <;> omega
theorem ch_ru (r1 r2 r3 : Prop) [Decidable r1] [Decidable r2] [Decidable r3] (x0 x1 x2 x3 : Nat) (h0 : x0 < 256) (h1 : x1 < 256) (h2 : x2 < 256) (h3 : x3 < 256) :
    (chN r1 r2 r3 x0 x1 x2 x3 = 0 ∧ ruN r1 r2 r3 x0 x1 x2 x3 = (65533, 1) ∧ ¬ (r1 ∧ r2 ∧ x0 = 239 ∧ x1 = 191 ∧ x2 = 189)) ∨
    (0 < chN r1 r2 r3 x0 x1 x2 x3 ∧ (ruN r1 r2 r3 x0 x1 x2 x3).2 = chN r1 r2 r3 x0 x1 x2 x3 ∧ ((ruN r1 r2 r3 x0 x1 x2 x3).1 = 65533 → (r1 ∧ r2 ∧ x0 = 239 ∧ x1 = 191 ∧ x2 = 189))) := by
  by_cases a0 : x0 < 128
  · right
    unfold chN ruN
    rw [if_pos a0, if_pos a0]
    exact ⟨by omega, rfl, fun h => by simp only at h; omega⟩
  by_cases c2 : r1 ∧ 194 ≤ x0 ∧ x0 < 224 ∧ 128 ≤ x1 ∧ x1 ≤ 191
  · right
    obtain ⟨⟨g1, g2⟩, g3⟩ := (ru2 h0 h1).2 c2.2
    have e1 : chN r1 r2 r3 x0 x1 x2 x3 = 2 := by
      unfold chN
      rw [if_neg a0, if_neg, if_pos (by omega)]
      rintro (h | h | h)
      · omega
      · omega
      · refine h ⟨c2.1, ?_, ?_⟩
        · rw [if_neg (by omega), if_neg (by omega)]; omega
        · rw [if_neg (by omega), if_neg (by omega)]; omega
    have e2 : ruN r1 r2 r3 x0 x1 x2 x3 = ((x0 % 32) * 64 + x1 % 64, 2) := by
      unfold ruN
      rw [if_neg a0, if_pos ⟨g1, c2.1, g2⟩, if_pos g3]
    rw [e1, e2]
    exact ⟨by omega, rfl, fun h => by simp only at h; omega⟩
  by_cases c3 : r1 ∧ r2 ∧ (224 ≤ x0 ∧ x0 < 240 ∧ ((if x0 = 224 then 160 else 128) ≤ x1 ∧ x1 ≤ (if x0 = 237 then 159 else 191)) ∧ 128 ≤ x2 ∧ x2 ≤ 191)
  · right
    obtain ⟨k1, k2, k⟩ := c3
    obtain ⟨⟨⟨g1, g2⟩, g3⟩, g4⟩ := (ru3 h0 h1 h2).2 k
    have e1 : chN r1 r2 r3 x0 x1 x2 x3 = 3 := by
      unfold chN
      rw [if_neg a0, if_neg, if_neg (by omega), if_neg (fun h => h ⟨k2, k.2.2.2⟩), if_pos (by omega)]
      rintro (h | h | h)
      · omega
      · omega
      · refine h ⟨k1, ?_, ?_⟩
        · rw [if_neg (by omega)]; exact k.2.2.1.1
        · rw [if_neg (by omega)]; exact k.2.2.1.2
    have e2 : ruN r1 r2 r3 x0 x1 x2 x3 = ((x0 % 16) * 4096 + (x1 % 64) * 64 + x2 % 64, 3) := by
      unfold ruN
      rw [if_neg a0, if_neg (by omega), if_pos ⟨⟨g1, k1, g2⟩, k2, g3⟩, if_pos g4]
    rw [e1, e2]
    refine ⟨by omega, rfl, fun h => ?_⟩
    simp only at h
    exact ⟨k1, k2, by omega⟩
  by_cases c4 : r1 ∧ r2 ∧ r3 ∧ (240 ≤ x0 ∧ x0 ≤ 244 ∧ ((if x0 = 240 then 144 else 128) ≤ x1 ∧ x1 ≤ (if x0 = 244 then 143 else 191)) ∧ (128 ≤ x2 ∧ x2 ≤ 191) ∧ (128 ≤ x3 ∧ x3 ≤ 191))
  · right
    obtain ⟨k1, k2, k3, k⟩ := c4
    obtain ⟨⟨⟨⟨g1, g2⟩, g3⟩, g4⟩, g5⟩ := (ru4 h0 h1 h2 h3).2 k
    have e1 : chN r1 r2 r3 x0 x1 x2 x3 = 4 := by
      unfold chN
      rw [if_neg a0, if_neg, if_neg (by omega), if_neg (fun h => h ⟨k2, k.2.2.2.1⟩), if_neg (by omega), if_neg (fun h => h ⟨k3, k.2.2.2.2⟩)]
      rintro (h | h | h)
      · omega
      · omega
      · refine h ⟨k1, ?_, ?_⟩
        · have := k.2.2.1.1
          split at this
          · rename_i e; rw [if_pos e]; exact this
          · rename_i e; rw [if_neg e, if_neg (by omega)]; exact this
        · have := k.2.2.1.2
          split at this
          · rename_i e; rw [if_pos e]; exact this
          · rename_i e; rw [if_neg e, if_neg (by omega)]; exact this
    have e2 : ruN r1 r2 r3 x0 x1 x2 x3 = ((x0 % 8) * 262144 + (x1 % 64) * 4096 + (x2 % 64) * 64 + x3 % 64, 4) := by
      unfold ruN
      rw [if_neg a0, if_neg (by omega), if_neg (by omega), if_pos ⟨⟨⟨g1, k1, g2⟩, k2, g3⟩, k3, g4⟩, if_pos g5]
    rw [e1, e2]
    exact ⟨by omega, rfl, fun h => by simp only at h; omega⟩
  · left
    have e2 : ruN r1 r2 r3 x0 x1 x2 x3 = (65533, 1) := by
      unfold ruN
      rw [if_neg a0]
      split
      · rename_i g
        rw [if_neg fun g' => c2 ⟨g.2.1, (ru2 h0 h1).1 ⟨⟨g.1, g.2.2⟩, g'⟩⟩]
      split
      · rename_i g
        rw [if_neg fun g' => c3 ⟨g.1.2.1, g.2.1, (ru3 h0 h1 h2).1 ⟨⟨⟨g.1.1, g.1.2.2⟩, g.2.2⟩, g'⟩⟩]
      split
      · rename_i g
        rw [if_neg fun g' => c4 ⟨g.1.1.2.1, g.1.2.1, g.2.1, (ru4 h0 h1 h2 h3).1 ⟨⟨⟨⟨g.1.1.1, g.1.1.2.2⟩, g.1.2.2⟩, g.2.2⟩, g'⟩⟩]
      rfl
    have e3 : ¬ (r1 ∧ r2 ∧ x0 = 239 ∧ x1 = 191 ∧ x2 = 189) := by
      rintro ⟨k1, k2, rfl, rfl, rfl⟩
      exact c3 ⟨k1, k2, by simp⟩
    refine ⟨?_, e2, e3⟩
    unfold chN
    rw [if_neg a0]
    generalize hlo : (if x0 = 240 then 144 else if x0 = 224 then 160 else 128 : Nat) = lo
    generalize hhi : (if x0 = 244 then 143 else if x0 = 237 then 159 else 191 : Nat) = hi
    by_cases g : x0 < 194 ∨ 244 < x0 ∨ ¬ (r1 ∧ lo ≤ x1 ∧ x1 ≤ hi)
    · rw [if_pos g]
    rw [if_neg g]
    simp only [not_or, Decidable.not_not] at g
    obtain ⟨g1, g2, g3, g4, g5⟩ := g
    by_cases g6 : x0 < 224
    · rw [if_neg (by omega), if_neg (by omega)] at hlo hhi
      exact absurd ⟨g3, by omega, by omega, by omega, by omega⟩ c2
    rw [if_neg g6]
    by_cases g7 : ¬ (r2 ∧ 128 ≤ x2 ∧ x2 ≤ 191)
    · rw [if_pos g7]
    rw [if_neg g7]
    simp only [Decidable.not_not] at g7
    by_cases g8 : x0 < 240
    · rw [if_neg (by omega)] at hlo hhi
      subst hlo hhi
      exact absurd ⟨g3, g7.1, by omega, by omega, ⟨g4, g5⟩, g7.2⟩ c3
    rw [if_neg g8]
    by_cases g9 : ¬ (r3 ∧ 128 ≤ x3 ∧ x3 ≤ 191)
    · rw [if_pos g9]
    exfalso
    simp only [Decidable.not_not] at g9
    refine c4 ⟨g3, g7.1, g9.1, by omega, by omega, ⟨?_, ?_⟩, g7.2, g9.2⟩
    · by_cases e : x0 = 240
      · rw [if_pos e] at hlo ⊢; omega
      · rw [if_neg e] at hlo ⊢; rw [if_neg (by omega)] at hlo; omega
    · by_cases e : x0 = 244
      · rw [if_pos e] at hhi ⊢; omega
      · rw [if_neg e] at hhi ⊢; rw [if_neg (by omega)] at hhi; omega
theorem pre_iff {b : List Int} {n : Nat} (hs : byteR b) : spPre (b.drop n) [239, 191, 189] = true ↔ (n + 1 < b.length ∧ n + 2 < b.length ∧ (b.getD n 0).toNat = 239 ∧ (b.getD (n + 1) 0).toNat = 191 ∧ (b.getD (n + 2) 0).toNat = 189) := by
  unfold spPre
  rw [decide_eq_true_eq]
  show (b.drop n).take 3 = _ ↔ _
  constructor
  · intro h
    have hl := congrArg List.length h
    simp only [List.length_take, List.length_drop, List.length_cons, List.length_nil] at hl
    have h3 : n + 2 < b.length := by omega
    rw [List.drop_eq_getElem_cons (by omega), List.drop_eq_getElem_cons (by omega), List.drop_eq_getElem_cons (by omega)] at h
    simp only [List.take_succ_cons, List.take_zero, List.cons.injEq, and_true] at h
    obtain ⟨k1, k2, k3⟩ := h
    have k3 : b[n + 2] = 189 := k3
    rw [getD_lt (by omega), getD_lt (by omega), getD_lt h3, k1, k2, k3]
    exact ⟨by omega, by omega, rfl, rfl, rfl⟩
  · rintro ⟨h1, h2, h3, h4, h5⟩
    rw [getD_lt (by omega)] at h3 h4 h5
    rw [List.drop_eq_getElem_cons (by omega), List.drop_eq_getElem_cons (by omega), List.drop_eq_getElem_cons (by omega)]
    simp only [List.take_succ_cons, List.take_zero, List.cons.injEq, and_true]
    refine ⟨by omega, by omega, ?_⟩
    show b[n + 2] = 189
    omega
theorem rune_char {b : List Int} (hs : byteR b) {n : Nat} (h : n < b.length) :
    (spChar b n = 0 ∧ (spRune b n).1 = 65533 ∧ spPre (b.drop n) [239, 191, 189] = false) ∨
    (0 < spChar b n ∧ (spRune b n).2 = spChar b n ∧ ((spRune b n).1 = 65533 → spPre (b.drop n) [239, 191, 189] = true)) := by
  rw [spRune_nat, spChar_N hs h, decode_N hs n]
  have hx : ∀ k, (b.getD k 0).toNat < 256 := fun k => by rw [← mkStr_get hs]; exact UInt8.toNat_lt _
  have := ch_ru (n + 1 < b.length) (n + 2 < b.length) (n + 3 < b.length) _ _ _ _ (hx n) (hx (n + 1)) (hx (n + 2)) (hx (n + 3))
  rw [pre_iff hs, ← Bool.not_eq_true, pre_iff hs]
  rcases this with ⟨h1, h2, h3⟩ | ⟨h1, h2, h3⟩
  · left
    exact ⟨by rw [h1]; rfl, by rw [h2]; rfl, h3⟩
  · right
    exact ⟨by omega, by simp only; rw [h2], fun h => h3 (by simp only at h; omega)⟩

/-! ### internal/stringslite.HasPrefix -/
noncomputable abbrev iopPre0 : Io := ⟨[dS, dS], [], [], [dB], none⟩
noncomputable def FpPre0 (d : iopPre0.In) : Tr iopPre0.Res := .ret (.ret ((spPre d.1.1 d.1.2.1, ()), ()))
noncomputable abbrev cspPre0 : List (Nat × Hc) := []
noncomputable def hdpPre0 : Hd := hdT cspPre0
noncomputable def lppPre0 : Lp := lpT []

noncomputable def bodypPre0 (a0 : List Int) (a1 : List Int) : Option iopPre0.Res := bif decide ((↑a1.length : Int) ≤ (↑a0.length : Int)) then bif decide (0 ≤ 0) && (decide (0 ≤ (↑a1.length : Int)) && decide ((↑a1.length : Int) ≤ (↑a0.length : Int))) then some (Out.ret ((decide (List.drop (Int.toNat 0) (List.take (↑a1.length : Int).toNat a0) = a1), ()), ())) else none else some (Out.ret ((false, ()), ()))
theorem runpPre0 (a0 : List Int) (a1 : List Int) : Io.run tt hdpPre0 dr lppPre0 iopPre0 Go.Proofs.Try.f71 ((a0, a1, ()), ()) = bodypPre0 a0 a1 := by kernel_rfl
theorem okpPre0 : HcOk prog 71 (ioHd iopPre0 FpPre0) := by
  refine fn_sound (n := 400) hm (cs := cspPre0) .nil (lp := lppPre0) (fn := Go.Proofs.Try.f71) (by kernel_rfl) (by kernel_rfl) (by kernel_rfl) iopPre0 (.done (by kernel_rfl)) FpPre0 ?_
  rintro ⟨⟨(s : List Int), (p : List Int), ⟨⟩⟩, ⟨⟩⟩ out hw ho
  cases ho
  refine (runpPre0 s p).trans ?_
  show _ = some (Out.ret ((spPre s p, ()), ()))
  unfold bodypPre0
  by_cases h : p.length ≤ s.length
  · rw [bif_true (by simpa using h), bif_true (by simp; omega)]
    rfl
  · rw [bif_false (by simpa using h)]
    have : spPre s p = false := by
      unfold spPre
      rw [decide_eq_false_iff_not]
      intro e
      have := congrArg List.length e
      simp only [List.length_take] at this
      omega
    rw [this]

/-! ### strings.HasPrefix -/
noncomputable abbrev iopPre : Io := ⟨[dS, dS], [], [], [dB], none⟩
noncomputable def FpPre (d : iopPre.In) : Tr iopPre.Res := .ret (.ret ((spPre d.1.1 d.1.2.1, ()), ()))
noncomputable abbrev cspPre : List (Nat × Hc) := [(71, ioHd iopPre0 FpPre0)]
noncomputable def hdpPre : Hd := hdT cspPre
noncomputable def lppPre : Lp := lpT []

noncomputable def bodypPre (a0 : List Int) (a1 : List Int) : Option iopPre.Res := some (Out.ret ((spPre a0 a1, ()), ()))
theorem runpPre (a0 : List Int) (a1 : List Int) : Io.run tt hdpPre dr lppPre iopPre Go.Proofs.Try.f70 ((a0, a1, ()), ()) = bodypPre a0 a1 := by kernel_rfl
theorem okpPre : HcOk prog 70 (ioHd iopPre FpPre) := by
  refine fn_sound (n := 400) hm (cs := cspPre) (.cons okpPre0 .nil) (lp := lppPre) (fn := Go.Proofs.Try.f70) (by kernel_rfl) (by kernel_rfl) (by kernel_rfl) iopPre (.done (by kernel_rfl)) FpPre ?_
  rintro ⟨⟨(s : List Int), (p : List Int), ⟨⟩⟩, ⟨⟩⟩ out hw ho
  cases ho
  exact runpPre s p

theorem spUtfN_end (b : List Int) : ∀ (n : Nat) (p : Int), 0 ≤ p → p ≤ b.length → (b.length : Int) < p + n → (spUtfN b n p).2 = true → (spUtfN b n p).1 = b.length
  | 0, p, h0, h1, h2, h => by omega
  | n + 1, p, h0, h1, h2, h => by
    unfold spUtfN at h ⊢
    split
    · rename_i h3; simp only; omega
    · rename_i h3
      rw [if_neg h3] at h
      split
      · rename_i h4; rw [if_pos h4] at h; cases h
      · rename_i h4
        rw [if_neg h4] at h
        have h5 := spChar_le (b := b) h0 (show p < (b.length : Int) by omega)
        exact spUtfN_end b n _ (by omega) (by omega) (by omega) h
theorem spUtf_end (b : List Int) (h : (spUtf b).2 = true) : (spUtf b).1 = b.length := spUtfN_end b (b.length + 1) 0 (by omega) (by omega) (by omega) h

/-! ### leat/label.Utf -/
noncomputable abbrev iopUtf : Io := ⟨[dL], [], [], [dI, dB], none⟩
noncomputable def FpUtf (d : iopUtf.In) : Tr iopUtf.Res := .ret (.ret (((spUtf d.1.1).1, (spUtf d.1.1).2, ()), ()))
noncomputable abbrev cspUtf : List (Nat × Hc) := [(70, ioHd iopPre FpPre)]
noncomputable def hdpUtf : Hd := hdT cspUtf
noncomputable abbrev lopUtf_4 : Lo := ⟨⟨[.one (.hol (.sl 5 (Ty.int IntKind.u8))), .any, .any, .any, .one (.hol .str), .any, .any, .any, .any, .any, .one (.ptr 10 0), .any, .any, .any, .any, .any, .any, .any, .any, .any, .any, .any, .any, .any, .any, .any, .any], [none, none, none, none, none, none, none, none, none, none, some [.itr]]⟩, [(.ret, ⟨[.any, .any, .one (.hol (.int IntKind.i64)), .one (.hol .bool), .any, .any, .any, .any, .any, .any, .any, .any, .any, .any, .any, .any, .any, .any, .any, .any, .any, .any, .any, .any, .any, .any, .any], []⟩), (.exit 0, ⟨[.one (.hol (.sl 5 (Ty.int IntKind.u8))), .any, .any, .any, .any, .any, .any, .any, .any, .any, .any, .any, .any, .any, .any, .any, .any, .any, .any, .any, .any, .any, .any, .any, .any, .any, .any], []⟩)]⟩
-- FpUtf_4 : lopUtf_4.st.den → Tr (DenX lopUtf_4.xs) | ((h1, (h2, ())), ((h3, ()), ()))
noncomputable def FpUtf_4 (d : lopUtf_4.st.den) : Tr (DenX lopUtf_4.xs) :=
  .ite (decide (d.2.1.1.2 = (0 : Int)) && decide (d.2.1.1.1 = d.1.2.1)) (.ite (spUtf d.1.2.1).2 (.ret (.pan (.ret ((), ((d.1.1, ()), ()))))) (.ret (.ret ((), (((spUtf d.1.2.1).1, (false, ())), ()))))) .no
noncomputable def lppUtf : Lp := lpT [(4, loHd lopUtf_4 FpUtf_4)]
noncomputable def steppUtf_4 {R : Type} (h1 : List Int) (h2 : List Int) (h3 : List Int × Int) (next : List Int → List Int → List Int × Int → Option R) (out : DenX lopUtf_4.xs → Option R) : Option R := bif decide (h3.snd < (↑h3.fst.length : Int)) then bif (spRune h3.fst h3.snd).fst == 65533 then bif decide (0 ≤ h3.snd) && (decide (h3.snd ≤ (↑h2.length : Int)) && decide ((↑h2.length : Int) ≤ (↑h2.length : Int))) then bif !spPre (List.drop h3.snd.toNat (List.take (↑h2.length : Int).toNat h2)) (List.map (fun (c : UInt8) => (↑c.toNat : Int)) [UInt8.ofBitVec (BitVec.ofFin (Fin.mk (239 % 2 ^ 8) (Nat.mod_lt 239 (BitVec.ofNat._proof_1 8)))), UInt8.ofBitVec (BitVec.ofFin (Fin.mk (191 % 2 ^ 8) (Nat.mod_lt 191 (BitVec.ofNat._proof_1 8)))), UInt8.ofBitVec (BitVec.ofFin (Fin.mk (189 % 2 ^ 8) (Nat.mod_lt 189 (BitVec.ofNat._proof_1 8))))]) then out (.ret ((), ((h3.snd, (false, ())), ()))) else next (h1) (h2) ((h3.fst, h3.snd + (spRune h3.fst h3.snd).snd)) else none else next (h1) (h2) ((h3.fst, h3.snd + (spRune h3.fst h3.snd).snd)) else out (.pan (.ret ((), ((h1, ()), ()))))
noncomputable def itpUtf_4 (n : Nat) (h1 : List Int) (h2 : List Int) (h3 : List Int × Int) : Option (DenX lopUtf_4.xs) := lpN tt hdpUtf dr lppUtf 0 Go.Proofs.Try.f66 (topL Go.Proofs.Try.f66 0) n (lopUtf_4.st.mk' ((h1, (h2, ())), ((h3, ()), ()))) (decX lopUtf_4.xs)
theorem slpUtf_4 (n : Nat) (h1 : List Int) (h2 : List Int) (h3 : List Int × Int) : itpUtf_4 (n + 1) h1 h2 h3 = steppUtf_4 h1 h2 h3 (itpUtf_4 n) some := by kernel_rfl
theorem looppUtf (b s : List Int) (hs : byteR s) (hb : (s.length : Int) ≤ 9223372036854775807) : ∀ (k : Nat) (p : Int), 0 ≤ p → p ≤ s.length → (s.length : Int) < p + k →
    itpUtf_4 k b s (s, p) = if (spUtfN s k p).2 = true then some (.pan (.ret ((), ((b, ()), ())))) else some (.ret ((), (((spUtfN s k p).1, (false, ())), ()))) := by
  intro k
  induction k with
  | zero => intro p h0 h1 h2; omega
  | succ k ih =>
    intro p h0 h1 h2
    rw [slpUtf_4]
    unfold steppUtf_4
    change (bif decide (p < (s.length : Int)) then bif (spRune s p).1 == 65533 then bif decide (0 ≤ p) && (decide (p ≤ (s.length : Int)) && decide ((s.length : Int) ≤ (s.length : Int))) then bif !spPre (List.drop p.toNat (List.take (s.length : Int).toNat s)) [239, 191, 189] then some (.ret ((), ((p, (false, ())), ()))) else itpUtf_4 k b s (s, p + (spRune s p).2) else none else itpUtf_4 k b s (s, p + (spRune s p).2) else some (.pan (.ret ((), ((b, ()), ()))))) = _
    by_cases h3 : (s.length : Int) ≤ p
    · have h4 : ¬ p < (s.length : Int) := by omega
      have hS : spUtfN s (k + 1) p = (p, true) := by simp [spUtfN, h3]
      simp [hS, h4]
    · have h4 : p < (s.length : Int) := by omega
      obtain ⟨n, rfl⟩ := toNat_of h0
      have h5 := rune_char hs (show n < s.length by omega)
      have h6 := spChar_le h0 h4
      rw [bif_true (by simpa using h4), Int.toNat_natCast, Int.toNat_natCast, List.take_length]
      rcases h5 with ⟨g1, g2, g3⟩ | ⟨g1, g2, g3⟩
      · have hS : spUtfN s (k + 1) n = (↑n, false) := by simp [spUtfN, h3, g1]
        rw [hS, g3, bif_true (by simpa using g2), bif_true (by simp; omega)]
        rfl
      · have hS : spUtfN s (k + 1) n = spUtfN s k (n + spChar s n) := by
          simp only [spUtfN]
          rw [if_neg h3, if_neg (by omega)]
        rw [hS, g2]
        have hn := ih (n + spChar s n) (by omega) (by omega) (by omega)
        by_cases g4 : (spRune s n).1 = 65533
        · rw [bif_true (by simpa using g4), bif_true (by simp; omega), g3 g4]
          exact hn
        · rw [bif_false (by simpa using g4)]
          exact hn
noncomputable def bodypUtf (a0 : List Int) : Option iopUtf.Res := (FpUtf_4 ((a0, (a0, ())), (((a0, 0), ()), ()))).run fun y => match y with | .ret ((), ((x13, x14, ()), ())) => (some (Out.ret ((x13, x14, ()), ()))) | .pan (.ret ((), ((x15, ()), ()))) => (some (Out.ret (((↑x15.length : Int), true, ()), ())))
theorem runpUtf (a0 : List Int) : Io.run tt hdpUtf dr lppUtf iopUtf Go.Proofs.Try.f66 ((a0, ()), ()) = bodypUtf a0 := by kernel_rfl
theorem okpUtf : HcOk prog 66 (ioHd iopUtf FpUtf) := by
  refine fn_sound (n := 400) hm (cs := cspUtf) (.cons okpPre .nil) (lp := lppUtf) (fn := Go.Proofs.Try.f66) (by kernel_rfl) (by kernel_rfl) (by kernel_rfl) iopUtf
    (.step (h0 := loHd lopUtf_4 FpUtf_4) (by kernel_rfl) (loop_sound (n := 400) hm (cs := cspUtf) (.cons okpPre .nil) (lp := lppUtf) (fn := Go.Proofs.Try.f66) (.done (by kernel_rfl)) lopUtf_4 FpUtf_4 ?_) (.done (by kernel_rfl))) FpUtf ?_
  · rintro ⟨⟨(b : List Int), (s : List Int), ⟨⟩⟩, ⟨⟨⟨(s' : List Int), (p : Int)⟩, ⟨⟩⟩, ⟨⟩⟩⟩ y hw hy
    obtain ⟨hg, hy⟩ := Tr.guard hy
    simp only [Bool.and_eq_true, decide_eq_true_eq] at hg
    have hg1 : p = 0 := hg.1
    have hg2 : s' = s := hg.2
    subst hg1 hg2
    have hs : byteR s' ∧ s'.length ≤ maxLen := hw.1.2.1
    have hb := hs.2
    rw [maxLen_eq] at hb
    refine ⟨s'.length + 1, (looppUtf b s' hs.1 (by omega) (s'.length + 1) 0 (by omega) (by omega) (by omega)).trans ?_⟩
    rw [← hy]
    simp only [Tr.val_ite, Tr.val_ret]
    rfl
  · rintro ⟨⟨(b : List Int), ⟨⟩⟩, ⟨⟩⟩ out hw ho
    cases ho
    refine (runpUtf b).trans ?_
    unfold bodypUtf FpUtf_4
    show _ = some (Out.ret (((spUtf b).1, (spUtf b).2, ()), ()))
    simp only [Tr.run_ite, Tr.run_ret]
    have he : (spUtf b).2 = true → (spUtf b).1 = b.length := spUtf_end b
    generalize spUtf b = r at *
    obtain ⟨r1, r2⟩ := r
    cases r2 with
    | true =>
      have he : r1 = b.length := he rfl
      simp [he]
    | false => simp

end
end Go.Proofs.Ytnppjkijhcampaa.Sym

/- bytes.Clone: nil stays nil, which no data tell. -/
namespace Go.Proofs.Ytnppjkijhcampaa.Sym
open Go
set_option linter.unusedSimpArgs false
set_option linter.unusedVariables false
noncomputable section

noncomputable abbrev clC : Code := fnCode Go.Proofs.Try.f65
noncomputable abbrev clO : Array Oper := regOps (seqL (seqL (seqR clC)))
noncomputable abbrev clX : Code := condT (seqR (seqL (seqR clC)))
noncomputable abbrev clY : Code := seqR (seqR clC)
noncomputable abbrev iopClone : Io := ⟨[dL], [], [], [dO], none⟩
noncomputable def FpClone (d : iopClone.In) : Tr iopClone.Res := .ite (decide (d.1.1.length ≤ 4294967296)) (.ret (.ret ((d.1.1, ()), ()))) .no
noncomputable abbrev clHd : Hd := hdT []
noncomputable abbrev clLp : Lp := lpT []
noncomputable def clA (b : List Int) (v3 v4 : V) : AS := ⟨[.one (.lst 5 (.int .u8) b 0), .any, .one (.lst 5 (.int .u8) [] 5), v3, v4, .any, .any, .any], [], []⟩
noncomputable def clK (ex : Ex) (A : AS) : Option iopClone.Res := match ex with
  | .ret => iopClone.fin tt Go.Proofs.Try.f65 .ret A
  | _ => none
noncomputable abbrev clLr : Nat := lrOf Go.Proofs.Try.f65
theorem cl0 (b : List Int) : ev tt clHd dr clLp 0 clLr (seqL clC) clLr [] (iopClone.start 8 ((b, ()), ())) (fun ex A => match ex with | .normal => some A | _ => none) = some (clA b .any .any) := by kernel_rfl
theorem clx (b : List Int) : ev tt clHd dr clLp 0 clLr clX clLr [] (clA b (.one (.lst 5 (.int .u8) b 0)) (.one (.bool true))) clK = some (.ret (([], ()), ())) := by kernel_rfl
theorem cly (b : List Int) : ev tt clHd dr clLp 0 clLr clY clLr [] (clA b (.one (.lst 5 (.int .u8) b 0)) (.one (.bool false))) clK = bif decide (([] : List Int).length + b.length ≤ 4294967296) then some (.ret ((b, ()), ())) else none := by kernel_rfl

theorem okpClone : HcOk prog 65 (ioHd iopClone FpClone) := by
  have htt := ttOf_ok Go.Proofs.Try.prog 400
  refine io_soundG (P := prog) htt (fn := Go.Proofs.Try.f65) (by kernel_rfl) (by kernel_rfl) iopClone FpClone ?_ (by kernel_rfl)
  rintro ⟨⟨(b : List Int), ⟨⟩⟩, ⟨⟩⟩ out hwf hout F G cst w vals R Rl hkb hend
  obtain ⟨hg, hout⟩ := Tr.guard hout
  have hg : b.length ≤ 4294967296 := by simpa using hg
  cases hout
  have hc : (Go.Proofs.Try.f65).body = some (.seq (seqL clC) (.seq (.seq (.region 1 clO false) (.cond (.tmp 4) clX .skip)) clY)) := by kernel_rfl
  have hdr := orderD_ok (ttOf_ok Go.Proofs.Try.prog 400)
  have hhd : HdOk prog clHd := hdT_ok HcsOk.nil
  refine calls_of_wp (P := prog) (fn := Go.Proofs.Try.f65) (by kernel_rfl) hc ?_
  refine wp_seq (ev_sound htt hm hhd hdr hkb (lp := clLp) _ (noLoops (c := (seqL clC)) (by kernel_rfl)) (cl0 b) Rl ?_)
  intro ex A1 G1 a1 w1 R1 hd1 h1
  cases ex with
  | normal =>
    simp only [Option.some.injEq] at h1
    subst h1
    show (Code.seq (.seq (.region 1 clO false) (.cond (.tmp 4) clX .skip)) clY).wp prog _ a1 w1
    refine wp_seq (wp_seq (wp_region ?_))
    have hr : List.range clO.size = [0, 1] := by kernel_rfl
    rw [hr]
    obtain ⟨p0, f0, ho0⟩ : ∃ pos after, clO[0]? = some { dst := some 3, op := .move (.tmp 0), type := 22, pos := pos, after := after, guard := none } := ⟨_, _, rfl⟩
    obtain ⟨p1, f1, ho1⟩ : ∃ pos after, clO[1]? = some { dst := some 4, op := .binOp .eql 22 (.tmp 3) (.const (.slice none 0 0)) 22, type := 4, pos := pos, after := after, guard := none } := ⟨_, _, rfl⟩
    have hu : Program.underlying prog 22 = some (.slice 5) := by kernel_rfl
    simp only [wpOps, ho0, ho1]
    rw [if_pos (by rfl)]
    refine .inl ?_
    obtain ⟨u0, hu0, hv0⟩ := evP_sound (P := prog) htt (fun x => R1.opd x) R1.ob { dst := some 3, op := .move (.tmp 0), type := 22, pos := p0, after := f0, guard := none } (id := 7) (chk := true) (v := .one (.lst 5 (.int .u8) b 0)) (by kernel_rfl) rfl
    unfold Oper.wp
    rw [hu0, Oper.upon_value]
    have R2 := R1.puts hv0 (some 3)
    have hd2 : (a1.put (some 3) u0).defers = [] := (Act.put_defers' _ _ _).trans hd1
    generalize a1.put (some 3) u0 = a2 at R2 hd2 ⊢
    rw [if_pos (by rfl)]
    refine .inl ?_
    obtain ⟨Aa, cap, he, hc1, hc2, hrow, _⟩ : Rc G1 w1 (.lst 5 (.int .u8) b 0) (a2.eval (.tmp 3)) := R2.opd (.tmp 3)
    have hrun : (execOp a2.eval { dst := some 4, op := .binOp .eql 22 (.tmp 3) (.const (.slice none 0 0)) 22, type := 4, pos := p1, after := f1, guard := none }).run prog w1 = .ok (.value (.bool Aa.isNone)) w1 := by
      have h1 := Go.Lib.run_eql_slice_nil (P := prog) w1 22 5 Aa b.length cap 0 0 hu
      have h2 : a2.eval (.const (.slice none 0 0)) = .slice none 0 0 := rfl
      simp only [execOp, Sem.run_bind, he, h2]
      simp [eqGuard, h1]
    rw [hrun, Oper.upon_value]
    have R3 := R2.puts (v := .one (.bool Aa.isNone)) (u := .bool Aa.isNone) rfl (some 4)
    have hd3 : (a2.put (some 4) (.bool Aa.isNone)).defers = [] := (Act.put_defers' _ _ _).trans hd2
    generalize a2.put (some 4) (.bool Aa.isNone) = a3 at R3 hd3 ⊢
    have hb4 : a3.eval (.tmp 4) = .bool Aa.isNone := R3.opd (.tmp 4)
    refine wp_cond hb4 ?_
    cases Aa with
    | none =>
      have hb : b = [] := Classical.byContradiction fun hne => by
        obtain ⟨_, _, e, _⟩ := hrow hne
        cases e
      subst hb
      refine ev_sound htt hm hhd hdr hkb (lp := clLp) (l := clLr) (x := []) clX (noLoops (c := clX) (by kernel_rfl)) (clx []) R3 ?_
      intro ex A' G' a' w' R' hd' hk
      cases ex with
      | ret => exact ⟨hd'.trans hd3, hend .ret A' G' a' w' R' hk⟩
      | normal => cases hk
      | exit i => cases hk
      | panic v => cases hk
    | some ad =>
      refine wp_skip ?_
      refine ev_sound htt hm hhd hdr hkb (lp := clLp) (l := clLr) (x := []) clY (noLoops (c := clY) (by kernel_rfl)) ((cly b).trans (bif_true (by simpa using hg) _ _)) R3 ?_
      intro ex A' G' a' w' R' hd' hk
      cases ex with
      | ret => exact ⟨hd'.trans hd3, hend .ret A' G' a' w' R' hk⟩
      | normal => cases hk
      | exit i => cases hk
      | panic v => cases hk
  | exit i => cases h1
  | ret => cases h1
  | panic v => cases h1

end
end Go.Proofs.Ytnppjkijhcampaa.Sym

/- rec's reader: number, take, count, blob, header. -/
namespace Go.Proofs.Ytnppjkijhcampaa.Sym
open Go
set_option linter.unusedSimpArgs false
set_option linter.unusedVariables false
noncomputable section

noncomputable abbrev tFault : Ty := .prod (.int .i64) .unit
noncomputable abbrev kFault : Option (Nat × Ty) := some (60, tFault)
noncomputable abbrev oRd : List Sh := [dL, dI]

/-! ### (*leat/rec.reader).number -/
noncomputable abbrev ioknumber : Io := ⟨[.ptr 0 0], [oRd], [], [dI], kFault⟩
noncomputable def Fknumber (d : ioknumber.In) : Tr ioknumber.Res :=
  .ite (decide ((spNum d.2.1.1 d.2.1.2.1).2.2 = 0)) (.ret (.ret (((spNum d.2.1.1 d.2.1.2.1).1, ()), ((d.2.1.1, ((spNum d.2.1.1 d.2.1.2.1).2.1, ())), ())))) (.ret (.pan ((spNum d.2.1.1 d.2.1.2.1).2.2, ())))
noncomputable abbrev csknumber : List (Nat × Hc) := [(30, ioHd iopGet32 FpGet32)]
noncomputable def hdknumber : Hd := hdT csknumber
noncomputable def lpknumber : Lp := lpT []

noncomputable def bodyknumber (a0 : List Int) (a1 : Int) : Option ioknumber.Res := bif (spGet 5 15 a0 a1).snd.snd != 0 then some (Out.pan ((spGet 5 15 a0 a1).snd.snd, ())) else some (Out.ret ((IntKind.i64.wrap (IntKind.i32.wrap (spZag (spGet 5 15 a0 a1).fst)), ()), (a0, (spGet 5 15 a0 a1).snd.fst, ()), ()))
theorem runknumber (a0 : List Int) (a1 : Int) : Io.run tt hdknumber dr lpknumber ioknumber Go.Proofs.Try.f49 (((), ()), (a0, a1, ()), ()) = bodyknumber a0 a1 := by kernel_rfl
theorem okknumber : HcOk prog 49 (ioHd ioknumber Fknumber) := by
  refine fn_sound (n := 400) hm (cs := csknumber) (.cons okpGet32 .nil) (lp := lpknumber) (fn := Go.Proofs.Try.f49) (by kernel_rfl) (by kernel_rfl) (by kernel_rfl) ioknumber (.done (by kernel_rfl)) Fknumber ?_
  rintro ⟨⟨⟨⟩, ⟨⟩⟩, ⟨⟨(b : List Int), (p : Int), ⟨⟩⟩, ⟨⟩⟩⟩ out hw ho
  refine (runknumber b p).trans ?_
  rw [← ho]
  have hr := @spNum_range b p
  unfold bodyknumber Fknumber
  change (bif (spNum b p).2.2 != 0 then some (Out.pan ((spNum b p).2.2, ())) else some (Out.ret ((IntKind.i64.wrap (spNum b p).1, ()), (b, (spNum b p).2.1, ()), ()))) = _
  rw [wrap_i64 (n := (spNum b p).1) (by omega) (by omega)]
  simp only [Tr.val_ite, Tr.val_ret, decide_eq_true_eq]
  by_cases h : (spNum b p).2.2 = 0
  · rw [bif_false (by simpa using h), if_pos h]
  · rw [bif_true (by simpa using h), if_neg h]

/-! ### (*leat/rec.reader).take -/
noncomputable abbrev ioktake : Io := ⟨[.ptr 0 0, dI], [oRd], [], [dO], kFault⟩
noncomputable def Fktake (d : ioktake.In) : Tr ioktake.Res :=
  .ite (decide ((0 : Int) ≤ d.1.2.1) && (decide (d.1.2.1 ≤ (4294967296 : Int)) && (decide ((0 : Int) ≤ d.2.1.2.1) && decide (d.2.1.2.1 ≤ (d.2.1.1.length : Int)))))
    (.ite (decide ((d.2.1.1.length : Int) - d.2.1.2.1 < d.1.2.1)) (.ret (.pan (1, ()))) (.ret (.ret (((d.2.1.1.drop d.2.1.2.1.toNat).take d.1.2.1.toNat, ()), ((d.2.1.1, ((d.2.1.2.1 : Int) + d.1.2.1, ())), ()))))) .no
noncomputable abbrev csktake : List (Nat × Hc) := [(65, ioHd iopClone FpClone)]
noncomputable def hdktake : Hd := hdT csktake
noncomputable def lpktake : Lp := lpT []

noncomputable def bodyktake (a0 : Int) (a1 : List Int) (a2 : Int) : Option ioktake.Res := bif decide (IntKind.i64.wrap ((↑a1.length : Int) - a2) < a0) then some (Out.pan (1, ())) else bif decide (0 ≤ IntKind.i64.wrap (IntKind.i64.wrap (a2 + a0) - a0)) && (decide (IntKind.i64.wrap (IntKind.i64.wrap (a2 + a0) - a0) ≤ IntKind.i64.wrap (a2 + a0)) && decide (IntKind.i64.wrap (a2 + a0) ≤ (↑a1.length : Int))) then bif decide ((List.drop (IntKind.i64.wrap (IntKind.i64.wrap (a2 + a0) - a0)).toNat (List.take (IntKind.i64.wrap (a2 + a0)).toNat a1)).length ≤ 4294967296) then some (Out.ret ((List.drop (IntKind.i64.wrap (IntKind.i64.wrap (a2 + a0) - a0)).toNat (List.take (IntKind.i64.wrap (a2 + a0)).toNat a1), ()), (a1, IntKind.i64.wrap (a2 + a0), ()), ())) else none else none
theorem runktake (a0 : Int) (a1 : List Int) (a2 : Int) : Io.run tt hdktake dr lpktake ioktake Go.Proofs.Try.f47 (((), a0, ()), (a1, a2, ()), ()) = bodyktake a0 a1 a2 := by kernel_rfl
theorem okktake : HcOk prog 47 (ioHd ioktake Fktake) := by
  refine fn_sound (n := 400) hm (cs := csktake) (.cons okpClone .nil) (lp := lpktake) (fn := Go.Proofs.Try.f47) (by kernel_rfl) (by kernel_rfl) (by kernel_rfl) ioktake (.done (by kernel_rfl)) Fktake ?_
  rintro ⟨⟨⟨⟩, (n : Int), ⟨⟩⟩, ⟨⟨(b : List Int), (p : Int), ⟨⟩⟩, ⟨⟩⟩⟩ out hw ho
  obtain ⟨hg, ho⟩ := Tr.guard ho
  simp only [Bool.and_eq_true, decide_eq_true_eq] at hg
  have h0 : 0 ≤ n := hg.1
  have h1 : n ≤ 4294967296 := hg.2.1
  have h2 : 0 ≤ p := hg.2.2.1
  have h3 : p ≤ b.length := hg.2.2.2
  refine (runktake n b p).trans ?_
  rw [← ho]
  have hb : b.length ≤ maxLen := hw.2.1.1.1
  rw [maxLen_eq] at hb
  unfold bodyktake
  rw [wrap_i64 (n := (b.length : Int) - p) (by omega) (by omega)]
  simp only [Tr.val_ite, Tr.val_ret, decide_eq_true_eq]
  by_cases h : (b.length : Int) - p < n
  · rw [bif_true (by simpa using h), if_pos h]
  · rw [bif_false (by simpa using h), if_neg h, wrap_i64 (n := p + n) (by omega) (by omega), show p + n - n = p by omega, wrap_i64 (n := p) (by omega) (by omega)]
    rw [bif_true (by simp; omega), List.drop_take, show (p + n).toNat - p.toNat = n.toNat by omega, bif_true (by simp; omega)]

/-! ### (*leat/rec.reader).count -/
noncomputable abbrev iokcount : Io := ⟨[.ptr 0 0, dI], [oRd], [], [dI], kFault⟩
noncomputable def Fkcount (d : iokcount.In) : Tr iokcount.Res :=
  .ite (decide ((spNum d.2.1.1 d.2.1.2.1).2.2 = 0)) (.ite (decide ((spNum d.2.1.1 d.2.1.2.1).1 < d.1.2.1)) (.ret (.pan (5, ()))) (.ret (.ret (((spNum d.2.1.1 d.2.1.2.1).1, ()), ((d.2.1.1, ((spNum d.2.1.1 d.2.1.2.1).2.1, ())), ())))))
    (.ret (.pan ((spNum d.2.1.1 d.2.1.2.1).2.2, ())))
noncomputable abbrev cskcount : List (Nat × Hc) := [(49, ioHd ioknumber Fknumber)]
noncomputable def hdkcount : Hd := hdT cskcount
noncomputable def lpkcount : Lp := lpT []

noncomputable def bodykcount (a0 : Int) (a1 : List Int) (a2 : Int) : Option iokcount.Res := bif decide ((spGet 5 15 a1 a2).snd.snd = 0) then bif decide (IntKind.i32.wrap (spZag (spGet 5 15 a1 a2).fst) < a0) then some (Out.pan (5, ())) else some (Out.ret ((IntKind.i32.wrap (spZag (spGet 5 15 a1 a2).fst), ()), (a1, (spGet 5 15 a1 a2).snd.fst, ()), ())) else some (Out.pan ((spGet 5 15 a1 a2).snd.snd, ()))
theorem runkcount (a0 : Int) (a1 : List Int) (a2 : Int) : Io.run tt hdkcount dr lpkcount iokcount Go.Proofs.Try.f51 (((), a0, ()), (a1, a2, ()), ()) = bodykcount a0 a1 a2 := by kernel_rfl
theorem okkcount : HcOk prog 51 (ioHd iokcount Fkcount) := by
  refine fn_sound (n := 400) hm (cs := cskcount) (.cons okknumber .nil) (lp := lpkcount) (fn := Go.Proofs.Try.f51) (by kernel_rfl) (by kernel_rfl) (by kernel_rfl) iokcount (.done (by kernel_rfl)) Fkcount ?_
  rintro ⟨⟨⟨⟩, (l : Int), ⟨⟩⟩, ⟨⟨(b : List Int), (p : Int), ⟨⟩⟩, ⟨⟩⟩⟩ out hw ho
  refine (runkcount l b p).trans ?_
  rw [← ho]
  unfold bodykcount Fkcount
  change (bif decide ((spNum b p).2.2 = 0) then bif decide ((spNum b p).1 < l) then some (Out.pan (5, ())) else some (Out.ret (((spNum b p).1, ()), (b, (spNum b p).2.1, ()), ())) else some (Out.pan ((spNum b p).2.2, ()))) = _
  simp only [Tr.val_ite, Tr.val_ret, cond_eq_ite]

/-! ### (*leat/rec.reader).blob -/
noncomputable abbrev iokblob : Io := ⟨[.ptr 0 0], [oRd], [], [dBlob], kFault⟩
noncomputable def Fkblob (d : iokblob.In) : Tr iokblob.Res :=
  .ite (decide ((spTake d.2.1.1 d.2.1.2.1 (-1)).2.2 = 0)) (.ret (.ret (((spTake d.2.1.1 d.2.1.2.1 (-1)).1, ()), ((d.2.1.1, ((spTake d.2.1.1 d.2.1.2.1 (-1)).2.1, ())), ())))) (.ret (.pan ((spTake d.2.1.1 d.2.1.2.1 (-1)).2.2, ())))
noncomputable abbrev cskblob : List (Nat × Hc) := [(51, ioHd iokcount Fkcount), (47, ioHd ioktake Fktake)]
noncomputable def hdkblob : Hd := hdT cskblob
noncomputable def lpkblob : Lp := lpT []

noncomputable def bodykblob (a0 : List Int) (a1 : Int) : Option iokblob.Res := bif decide ((spGet 5 15 a0 a1).snd.snd = 0) then bif decide (IntKind.i32.wrap (spZag (spGet 5 15 a0 a1).fst) < -1) then some (Out.pan (5, ())) else bif decide (IntKind.i32.wrap (spZag (spGet 5 15 a0 a1).fst) < 0) then some (Out.ret (((true, [], ()), ()), (a0, (spGet 5 15 a0 a1).snd.fst, ()), ())) else bif decide (0 ≤ IntKind.i32.wrap (spZag (spGet 5 15 a0 a1).fst)) && (decide (IntKind.i32.wrap (spZag (spGet 5 15 a0 a1).fst) ≤ 4294967296) && (decide (0 ≤ (spGet 5 15 a0 a1).snd.fst) && decide ((spGet 5 15 a0 a1).snd.fst ≤ (↑a0.length : Int)))) then bif decide ((↑a0.length : Int) - (spGet 5 15 a0 a1).snd.fst < IntKind.i32.wrap (spZag (spGet 5 15 a0 a1).fst)) then some (Out.pan (1, ())) else some (Out.ret (((false, List.take (IntKind.i32.wrap (spZag (spGet 5 15 a0 a1).fst)).toNat (List.drop (spGet 5 15 a0 a1).snd.fst.toNat a0), ()), ()), (a0, (spGet 5 15 a0 a1).snd.fst + IntKind.i32.wrap (spZag (spGet 5 15 a0 a1).fst), ()), ())) else none else some (Out.pan ((spGet 5 15 a0 a1).snd.snd, ()))
theorem runkblob (a0 : List Int) (a1 : Int) : Io.run tt hdkblob dr lpkblob iokblob Go.Proofs.Try.f50 (((), ()), (a0, a1, ()), ()) = bodykblob a0 a1 := by kernel_rfl
theorem okkblob : HcOk prog 50 (ioHd iokblob Fkblob) := by
  refine fn_sound (n := 400) hm (cs := cskblob) (.cons okkcount (.cons okktake .nil)) (lp := lpkblob) (fn := Go.Proofs.Try.f50) (by kernel_rfl) (by kernel_rfl) (by kernel_rfl) iokblob (.done (by kernel_rfl)) Fkblob ?_
  rintro ⟨⟨⟨⟩, ⟨⟩⟩, ⟨⟨(b : List Int), (p : Int), ⟨⟩⟩, ⟨⟩⟩⟩ out hw ho
  refine (runkblob b p).trans ?_
  rw [← ho]
  have hr := @spNum_range b p
  unfold bodykblob Fkblob
  simp only [Tr.val_ite, Tr.val_ret, decide_eq_true_eq]
  change (bif decide ((spNum b p).2.2 = 0) then bif decide ((spNum b p).1 < -1) then some (Out.pan (5, ())) else bif decide ((spNum b p).1 < 0) then some (Out.ret (((true, [], ()), ()), (b, (spNum b p).2.1, ()), ())) else
    bif decide (0 ≤ (spNum b p).1) && (decide ((spNum b p).1 ≤ 4294967296) && (decide (0 ≤ (spNum b p).2.1) && decide ((spNum b p).2.1 ≤ (b.length : Int)))) then bif decide ((b.length : Int) - (spNum b p).2.1 < (spNum b p).1) then some (Out.pan (1, ())) else
      some (Out.ret (((false, List.take (spNum b p).1.toNat (List.drop (spNum b p).2.1.toNat b), ()), ()), (b, (spNum b p).2.1 + (spNum b p).1, ()), ())) else none else some (Out.pan ((spNum b p).2.2, ()))) = _
  by_cases h0 : (spNum b p).2.2 = 0
  rotate_left
  · have e : spTake b p (-1) = ((false, [], ()), 0, (spNum b p).2.2) := by unfold spTake; rw [if_pos h0]
    rw [e, bif_false (by simpa using h0), if_neg h0]
  have hk := spNum_ok h0
  rw [bif_true (by simpa using h0)]
  by_cases h1 : (spNum b p).1 < -1
  · have e : spTake b p (-1) = ((false, [], ()), 0, 5) := by unfold spTake; rw [if_neg (by simpa using h0), if_pos h1]
    rw [e, bif_true (by simpa using h1)]
    rfl
  rw [bif_false (by simpa using h1)]
  by_cases h2 : (spNum b p).1 < 0
  · have e : spTake b p (-1) = ((true, [], ()), (spNum b p).2.1, 0) := by unfold spTake; rw [if_neg (by simpa using h0), if_neg h1, if_pos h2]
    rw [e, bif_true (by simpa using h2)]
    rfl
  rw [bif_false (by simpa using h2), bif_true (by simp; omega)]
  by_cases h3 : (b.length : Int) - (spNum b p).2.1 < (spNum b p).1
  · have e : spTake b p (-1) = ((false, [], ()), 0, 1) := by unfold spTake; rw [if_neg (by simpa using h0), if_neg h1, if_neg h2, if_pos h3]
    rw [e, bif_true (by simpa using h3)]
    rfl
  · have e : spTake b p (-1) = ((false, (b.drop (spNum b p).2.1.toNat).take (spNum b p).1.toNat, ()), (spNum b p).2.1 + (spNum b p).1, 0) := by unfold spTake; rw [if_neg (by simpa using h0), if_neg h1, if_neg h2, if_neg h3]
    rw [e, bif_false (by simpa using h3)]
    rfl

/-! ### (*leat/rec.reader).header -/
/-- A header read: it, the place behind, the error. -/
noncomputable def spHead (b : List Int) (p : Int) : Head × Int × Int :=
  if (spTake b p 0).2.2 ≠ 0 then (([], (false, [], ()), ()), 0, (spTake b p 0).2.2)
  else if (spUtf (spTake b p 0).1.2.1).2 = false then (([], (false, [], ()), ()), 0, 6)
  else (((spTake b p 0).1.2.1, (spTake b (spTake b p 0).2.1 (-1)).1, ()), (spTake b (spTake b p 0).2.1 (-1)).2.1, (spTake b (spTake b p 0).2.1 (-1)).2.2)
noncomputable abbrev dHead : Sh := .dat tHead true false
noncomputable abbrev iokheader : Io := ⟨[.ptr 0 0], [oRd], [], [dHead], kFault⟩
noncomputable def Fkheader (d : iokheader.In) : Tr iokheader.Res :=
  .ite (decide ((spHead d.2.1.1 d.2.1.2.1).2.2 = 0)) (.ret (.ret (((spHead d.2.1.1 d.2.1.2.1).1, ()), ((d.2.1.1, ((spHead d.2.1.1 d.2.1.2.1).2.1, ())), ())))) (.ret (.pan ((spHead d.2.1.1 d.2.1.2.1).2.2, ())))
noncomputable abbrev cskheader : List (Nat × Hc) := [(51, ioHd iokcount Fkcount), (47, ioHd ioktake Fktake), (66, ioHd iopUtf FpUtf), (50, ioHd iokblob Fkblob)]
noncomputable def hdkheader : Hd := hdT cskheader
noncomputable def lpkheader : Lp := lpT []

noncomputable def bodykheader (a0 : List Int) (a1 : Int) : Option iokheader.Res := bif decide ((spGet 5 15 a0 a1).snd.snd = 0) then bif decide (IntKind.i32.wrap (spZag (spGet 5 15 a0 a1).fst) < 0) then some (Out.pan (5, ())) else bif decide (0 ≤ IntKind.i32.wrap (spZag (spGet 5 15 a0 a1).fst)) && (decide (IntKind.i32.wrap (spZag (spGet 5 15 a0 a1).fst) ≤ 4294967296) && (decide (0 ≤ (spGet 5 15 a0 a1).snd.fst) && decide ((spGet 5 15 a0 a1).snd.fst ≤ (↑a0.length : Int)))) then bif decide ((↑a0.length : Int) - (spGet 5 15 a0 a1).snd.fst < IntKind.i32.wrap (spZag (spGet 5 15 a0 a1).fst)) then some (Out.pan (1, ())) else bif !(spUtf (List.take (IntKind.i32.wrap (spZag (spGet 5 15 a0 a1).fst)).toNat (List.drop (spGet 5 15 a0 a1).snd.fst.toNat a0))).snd then some (Out.pan (6, ())) else bif decide ((spTake a0 ((spGet 5 15 a0 a1).snd.fst + IntKind.i32.wrap (spZag (spGet 5 15 a0 a1).fst)) (-1)).snd.snd = 0) then some (Out.ret (((List.take (IntKind.i32.wrap (spZag (spGet 5 15 a0 a1).fst)).toNat (List.drop (spGet 5 15 a0 a1).snd.fst.toNat a0), ((spTake a0 ((spGet 5 15 a0 a1).snd.fst + IntKind.i32.wrap (spZag (spGet 5 15 a0 a1).fst)) (-1)).fst.fst, (spTake a0 ((spGet 5 15 a0 a1).snd.fst + IntKind.i32.wrap (spZag (spGet 5 15 a0 a1).fst)) (-1)).fst.snd.fst, ()), ()), ()), (a0, (spTake a0 ((spGet 5 15 a0 a1).snd.fst + IntKind.i32.wrap (spZag (spGet 5 15 a0 a1).fst)) (-1)).snd.fst, ()), ())) else some (Out.pan ((spTake a0 ((spGet 5 15 a0 a1).snd.fst + IntKind.i32.wrap (spZag (spGet 5 15 a0 a1).fst)) (-1)).snd.snd, ())) else none else some (Out.pan ((spGet 5 15 a0 a1).snd.snd, ()))
theorem runkheader (a0 : List Int) (a1 : Int) : Io.run tt hdkheader dr lpkheader iokheader Go.Proofs.Try.f52 (((), ()), (a0, a1, ()), ()) = bodykheader a0 a1 := by kernel_rfl
theorem okkheader : HcOk prog 52 (ioHd iokheader Fkheader) := by
  refine fn_sound (n := 400) hm (cs := cskheader) (.cons okkcount (.cons okktake (.cons okpUtf (.cons okkblob .nil)))) (lp := lpkheader) (fn := Go.Proofs.Try.f52) (by kernel_rfl) (by kernel_rfl) (by kernel_rfl) iokheader (.done (by kernel_rfl)) Fkheader ?_
  rintro ⟨⟨⟨⟩, ⟨⟩⟩, ⟨⟨(b : List Int), (p : Int), ⟨⟩⟩, ⟨⟩⟩⟩ out hw ho
  refine (runkheader b p).trans ?_
  rw [← ho]
  have hr := @spNum_range b p
  unfold bodykheader Fkheader
  simp only [Tr.val_ite, Tr.val_ret, decide_eq_true_eq]
  have hn : IntKind.i32.wrap (spZag (spGet 5 15 b p).fst) = (spNum b p).1 := rfl
  have hq : (spGet 5 15 b p).2.1 = (spNum b p).2.1 := rfl
  have he : (spGet 5 15 b p).2.2 = (spNum b p).2.2 := rfl
  rw [hn, hq, he]
  by_cases h0 : (spNum b p).2.2 = 0
  rotate_left
  · have e0 : spTake b p 0 = ((false, [], ()), 0, (spNum b p).2.2) := by unfold spTake; rw [if_pos h0]
    have e : spHead b p = (([], (false, [], ()), ()), 0, (spNum b p).2.2) := by unfold spHead; rw [e0, if_pos h0]
    rw [e, bif_false (by simpa using h0), if_neg h0]
  have hk := spNum_ok h0
  rw [bif_true (by simpa using h0)]
  by_cases h2 : (spNum b p).1 < 0
  · have e0 : spTake b p 0 = ((false, [], ()), 0, 5) := by unfold spTake; rw [if_neg (by simpa using h0), if_pos h2]
    have e : spHead b p = (([], (false, [], ()), ()), 0, 5) := by unfold spHead; rw [e0]; rfl
    rw [e, bif_true (by simpa using h2)]
    rfl
  rw [bif_false (by simpa using h2), bif_true (by simp; omega)]
  by_cases h3 : (b.length : Int) - (spNum b p).2.1 < (spNum b p).1
  · have e0 : spTake b p 0 = ((false, [], ()), 0, 1) := by unfold spTake; rw [if_neg (by simpa using h0), if_neg h2, if_neg h2, if_pos h3]
    have e : spHead b p = (([], (false, [], ()), ()), 0, 1) := by unfold spHead; rw [e0]; rfl
    rw [e, bif_true (by simpa using h3)]
    rfl
  have e0 : spTake b p 0 = ((false, (b.drop (spNum b p).2.1.toNat).take (spNum b p).1.toNat, ()), (spNum b p).2.1 + (spNum b p).1, 0) := by unfold spTake; rw [if_neg (by simpa using h0), if_neg h2, if_neg h2, if_neg h3]
  rw [bif_false (by simpa using h3)]
  by_cases h4 : (spUtf ((b.drop (spNum b p).2.1.toNat).take (spNum b p).1.toNat)).2 = false
  · have e : spHead b p = (([], (false, [], ()), ()), 0, 6) := by
      unfold spHead
      rw [e0, if_neg (by simp), if_pos h4]
    rw [e, h4]
    rfl
  have e : spHead b p = (((b.drop (spNum b p).2.1.toNat).take (spNum b p).1.toNat, (spTake b ((spNum b p).2.1 + (spNum b p).1) (-1)).1, ()), (spTake b ((spNum b p).2.1 + (spNum b p).1) (-1)).2.1, (spTake b ((spNum b p).2.1 + (spNum b p).1) (-1)).2.2) := by
    unfold spHead
    rw [e0, if_neg (by simp), if_neg h4]
  rw [e, bif_false (by simpa using h4)]
  simp only [cond_eq_ite, decide_eq_true_eq]

end
end Go.Proofs.Ytnppjkijhcampaa.Sym

/- rec's reader: row. -/
namespace Go.Proofs.Ytnppjkijhcampaa.Sym
open Go
set_option linter.unusedSimpArgs false
set_option linter.unusedVariables false
noncomputable section

/-! ### (*leat/rec.reader).row -/
noncomputable abbrev iokrow : Io := ⟨[.ptr 0 0], [oRd], [], [dRow], kFault⟩
noncomputable def spEnd (b : List Int) : Int := (spHeads b (spTake b (spTake b (spNum b (spGet 10 1 b 1).2.1).2.1 (-1)).2.1 (-1)).2.1).2.1
noncomputable def Fkrow (d : iokrow.In) : Tr iokrow.Res :=
  .ite (decide (d.2.1.2.1 = (0 : Int))) (.ite (decide ((spRow d.2.1.1).2 = 0)) (.ret (.ret (((spRow d.2.1.1).1, ()), ((d.2.1.1, (spEnd d.2.1.1, ())), ())))) (.ret (.pan ((spRow d.2.1.1).2, ())))) .no
noncomputable abbrev cskrow : List (Nat × Hc) := [(49, ioHd ioknumber Fknumber), (51, ioHd iokcount Fkcount), (47, ioHd ioktake Fktake), (48, ioHd iopGet FpGet), (50, ioHd iokblob Fkblob), (52, ioHd iokheader Fkheader)]
noncomputable def hdkrow : Hd := hdT cskrow
noncomputable abbrev lokrow_19 : Lo := ⟨⟨[.one (.ptr 0 0), .any, .one (.ptr 3 0), .one (.ptr 4 0), .any, .any, .any, .any, .any, .any, .any, .any, .any, .any, .any, .any, .any, .any, .any, .any, .any, .any, .any, .any, .any, .any, .any, .any, .any, .any, .any, .any, .any, .any, .any, .any, .any, .any, .any, .any, .any, .any, .any, .any, .any, .any, .any, .any, .any, .any, .any, .any, .any, .any, .any, .any, .any, .any, .any, .any, .any, .one (.hol (.int IntKind.i64)), .one (.hol (.int IntKind.i64)), .any, .any, .any, .any, .any, .any, .any, .any, .any, .any, .any, .any, .any, .any, .any, .any, .any, .any, .any, .any, .any, .any], [some [.hol (.sl 5 (Ty.int IntKind.u8)), .hol (.int IntKind.i64)], none, none, some [.hol (.int IntKind.i64), .hol (.int IntKind.i32), .hol .bool, .onl 5 (Ty.int IntKind.u8) 1544, .hol .bool, .onl 5 (Ty.int IntKind.u8) 1548, .onl 49 (Ty.str.prod ((Ty.bool.prod ((Ty.sl 5 (Ty.int IntKind.u8)).prod Ty.unit)).prod Ty.unit)) 1550], some [.hol (.int IntKind.i64), .hol (.int IntKind.i32), .hol .bool, .hol (.sl 5 (Ty.int IntKind.u8)), .hol .bool, .hol (.sl 5 (Ty.int IntKind.u8)), .onl 49 (Ty.str.prod ((Ty.bool.prod ((Ty.sl 5 (Ty.int IntKind.u8)).prod Ty.unit)).prod Ty.unit)) 2062]]⟩, [(.panic 60 ((Ty.int IntKind.i64).prod Ty.unit), ⟨[.any, .any, .any, .any, .any, .any, .any, .any, .any, .any, .any, .any, .any, .any, .any, .any, .any, .any, .any, .any, .any, .any, .any, .any, .any, .any, .any, .any, .any, .any, .any, .any, .any, .any, .any, .any, .any, .any, .any, .any, .any, .any, .any, .any, .any, .any, .any, .any, .any, .any, .any, .any, .any, .any, .any, .any, .any, .any, .any, .any, .any, .any, .any, .any, .any, .any, .any, .any, .any, .any, .any, .any, .any, .any, .any, .any, .any, .any, .any, .any, .any, .any, .any, .any, .any], []⟩), (.exit 0, ⟨[.one (.ptr 0 0), .any, .one (.ptr 3 0), .one (.ptr 4 0), .any, .any, .any, .any, .any, .any, .any, .any, .any, .any, .any, .any, .any, .any, .any, .any, .any, .any, .any, .any, .any, .any, .any, .any, .any, .any, .any, .any, .any, .any, .any, .any, .any, .any, .any, .any, .any, .any, .any, .any, .any, .any, .any, .any, .any, .any, .any, .any, .any, .any, .any, .any, .any, .any, .any, .any, .any, .any, .any, .any, .any, .any, .any, .any, .any, .any, .any, .any, .any, .any, .any, .any, .any, .any, .any, .any, .any, .any, .any, .any, .any], [some [.hol (.sl 5 (Ty.int IntKind.u8)), .hol (.int IntKind.i64)], none, none, some [.hol (.int IntKind.i64), .hol (.int IntKind.i32), .hol .bool, .onl 5 (Ty.int IntKind.u8) 1544, .hol .bool, .onl 5 (Ty.int IntKind.u8) 1548, .onl 49 (Ty.str.prod ((Ty.bool.prod ((Ty.sl 5 (Ty.int IntKind.u8)).prod Ty.unit)).prod Ty.unit)) 1550], some [.hol (.int IntKind.i64), .hol (.int IntKind.i32), .hol .bool, .hol (.sl 5 (Ty.int IntKind.u8)), .hol .bool, .hol (.sl 5 (Ty.int IntKind.u8)), .onl 49 (Ty.str.prod ((Ty.bool.prod ((Ty.sl 5 (Ty.int IntKind.u8)).prod Ty.unit)).prod Ty.unit)) 2062]]⟩)]⟩
-- Fkrow_19 : lokrow_19.st.den → Tr (DenX lokrow_19.xs) | ((h2, (h3, ())), ((h4, (h5, ())), ((h6, (h7, (h8, (h9, (h10, (h11, (h12, ()))))))), ((h13, (h14, (h15, (h16, (h17, (h18, (h19, ()))))))), ()))))
noncomputable def Fkrow_19 (d : lokrow_19.st.den) : Tr (DenX lokrow_19.xs) :=
  .ite (decide (d.1.2.1 = (0 : Int)) && (decide ((0 : Int) ≤ d.1.1) && (decide (d.1.1 ≤ (16 : Int)) && decide (d.2.2.2.1.2.2.2.2.2.2.1 = ([] : List Head)))))
    (.ite (decide ((spHeadsN d.2.1.1 (d.1.1 : Int).toNat [] d.2.1.2.1).2.2 = (0 : Int)))
      (.ret (.pan (.ret ((), ((), ((d.2.1.1, ((spHeadsN d.2.1.1 (d.1.1 : Int).toNat [] d.2.1.2.1).2.1, ())), (d.2.2.1, ((d.2.2.2.1.1, (d.2.2.2.1.2.1, (d.2.2.2.1.2.2.1, (d.2.2.2.1.2.2.2.1, (d.2.2.2.1.2.2.2.2.1, (d.2.2.2.1.2.2.2.2.2.1, ((spHeadsN d.2.1.1 (d.1.1 : Int).toNat [] d.2.1.2.1).1, ()))))))), ()))))))))
      (.ret (.ret (((spHeadsN d.2.1.1 (d.1.1 : Int).toNat [] d.2.1.2.1).2.2, ()), ((), ()))))) .no
noncomputable def lpkrow : Lp := lpT [(19, loHd lokrow_19 Fkrow_19)]
noncomputable def stepkrow_19 {R : Type} (h2 : Int) (h3 : Int) (h4 : List Int) (h5 : Int) (h6 : Int) (h7 : Int) (h8 : Bool) (h9 : List Int) (h10 : Bool) (h11 : List Int) (h12 : List (Ty.str.prod ((Ty.bool.prod ((Ty.sl 5 (Ty.int IntKind.u8)).prod Ty.unit)).prod Ty.unit)).den) (h13 : Int) (h14 : Int) (h15 : Bool) (h16 : List Int) (h17 : Bool) (h18 : List Int) (h19 : List (Ty.str.prod ((Ty.bool.prod ((Ty.sl 5 (Ty.int IntKind.u8)).prod Ty.unit)).prod Ty.unit)).den) (next : Int → Int → List Int → Int → Int → Int → Bool → List Int → Bool → List Int → List (Ty.str.prod ((Ty.bool.prod ((Ty.sl 5 (Ty.int IntKind.u8)).prod Ty.unit)).prod Ty.unit)).den → Int → Int → Bool → List Int → Bool → List Int → List (Ty.str.prod ((Ty.bool.prod ((Ty.sl 5 (Ty.int IntKind.u8)).prod Ty.unit)).prod Ty.unit)).den → Option R) (out : DenX lokrow_19.xs → Option R) : Option R := bif decide (h3 < h2) then bif decide ((spHead h4 h5).snd.snd = 0) then bif !([[Sh.dat (Ty.sl 5 (Ty.int IntKind.u8)) false false, Sh.dat (Ty.int IntKind.i64) false false]].length + 3 == 1 + 69 || false) && true && decide (h19.length + [((spHead h4 h5).fst.fst, ((spHead h4 h5).fst.snd.fst.fst, (spHead h4 h5).fst.snd.fst.snd.fst, ()), ())].length ≤ 4294967296) then next (h2) (IntKind.i64.wrap (h3 + 1)) (h4) ((spHead h4 h5).snd.fst) (h6) (h7) (h8) (h9) (h10) (h11) (h12) (h13) (h14) (h15) (h16) (h17) (h18) (h19 ++ [((spHead h4 h5).fst.fst, ((spHead h4 h5).fst.snd.fst.fst, (spHead h4 h5).fst.snd.fst.snd.fst, ()), ())]) else none else out (.ret (((spHead h4 h5).snd.snd, ()), ((), ()))) else out (.pan (.ret ((), ((), ((h4, (h5, ())), ((h6, (h7, (h8, (h9, (h10, (h11, (h12, ()))))))), ((h13, (h14, (h15, (h16, (h17, (h18, (h19, ()))))))), ())))))))
noncomputable def itkrow_19 (n : Nat) (h2 : Int) (h3 : Int) (h4 : List Int) (h5 : Int) (h6 : Int) (h7 : Int) (h8 : Bool) (h9 : List Int) (h10 : Bool) (h11 : List Int) (h12 : List (Ty.str.prod ((Ty.bool.prod ((Ty.sl 5 (Ty.int IntKind.u8)).prod Ty.unit)).prod Ty.unit)).den) (h13 : Int) (h14 : Int) (h15 : Bool) (h16 : List Int) (h17 : Bool) (h18 : List Int) (h19 : List (Ty.str.prod ((Ty.bool.prod ((Ty.sl 5 (Ty.int IntKind.u8)).prod Ty.unit)).prod Ty.unit)).den) : Option (DenX lokrow_19.xs) := lpN tt hdkrow dr lpkrow 1 Go.Proofs.Try.f31 (topL Go.Proofs.Try.f31 0) n (lokrow_19.st.mk' ((h2, (h3, ())), ((h4, (h5, ())), ((h6, (h7, (h8, (h9, (h10, (h11, (h12, ()))))))), ((h13, (h14, (h15, (h16, (h17, (h18, (h19, ()))))))), ()))))) (decX lokrow_19.xs)
theorem slkrow_19 (n : Nat) (h2 : Int) (h3 : Int) (h4 : List Int) (h5 : Int) (h6 : Int) (h7 : Int) (h8 : Bool) (h9 : List Int) (h10 : Bool) (h11 : List Int) (h12 : List (Ty.str.prod ((Ty.bool.prod ((Ty.sl 5 (Ty.int IntKind.u8)).prod Ty.unit)).prod Ty.unit)).den) (h13 : Int) (h14 : Int) (h15 : Bool) (h16 : List Int) (h17 : Bool) (h18 : List Int) (h19 : List (Ty.str.prod ((Ty.bool.prod ((Ty.sl 5 (Ty.int IntKind.u8)).prod Ty.unit)).prod Ty.unit)).den) : itkrow_19 (n + 1) h2 h3 h4 h5 h6 h7 h8 h9 h10 h11 h12 h13 h14 h15 h16 h17 h18 h19 = stepkrow_19 h2 h3 h4 h5 h6 h7 h8 h9 h10 h11 h12 h13 h14 h15 h16 h17 h18 h19 (itkrow_19 n) some := by kernel_rfl
theorem spHeadsN_succ (b : List Int) (m : Nat) (o : List Head) (p : Int) : spHeadsN b (m + 1) o p = if (spHead b p).2.2 ≠ 0 then ([], 0, (spHead b p).2.2) else spHeadsN b m (o ++ [(spHead b p).1]) (spHead b p).2.1 := by
  rw [spHeadsN]
  by_cases a1 : (spTake b p 0).2.2 = 0
  · rw [if_neg (by simpa using a1)]
    by_cases a2 : (spUtf (spTake b p 0).1.2.1).2 = false
    · have e : spHead b p = (([], (false, [], ()), ()), 0, 6) := by unfold spHead; rw [if_neg (by simpa using a1), if_pos a2]
      rw [if_pos a2, e]
      rfl
    · have e : spHead b p = (((spTake b p 0).1.2.1, (spTake b (spTake b p 0).2.1 (-1)).1, ()), (spTake b (spTake b p 0).2.1 (-1)).2.1, (spTake b (spTake b p 0).2.1 (-1)).2.2) := by unfold spHead; rw [if_neg (by simpa using a1), if_neg a2]
      rw [if_neg a2, e]
  · have e : spHead b p = (([], (false, [], ()), ()), 0, (spTake b p 0).2.2) := by unfold spHead; rw [if_pos a1]
    rw [if_pos a1, e, if_pos a1]
theorem notNe {α : Type} {a b : α} (h : a = b) : ¬ a ≠ b := fun h' => h' h
theorem loopkrow (b : List Int) (n : Int) (hn : 0 ≤ n) (hn' : n ≤ 16) (h6 h7 : Int) (h8 : Bool) (h9 : List Int) (h10 : Bool) (h11 : List Int) (h12 : List Head) (h13 h14 : Int) (h15 : Bool) (h16 : List Int) (h17 : Bool) (h18 : List Int) : ∀ (k m : Nat) (p : Int) (o : List Head) (i : Int), i + m = n → 0 ≤ i → m < k → o.length = i.toNat →
    itkrow_19 k n i b p h6 h7 h8 h9 h10 h11 h12 h13 h14 h15 h16 h17 h18 o = if (spHeadsN b m o p).2.2 = 0 then some (.pan (.ret ((), ((), ((b, ((spHeadsN b m o p).2.1, ())), ((h6, (h7, (h8, (h9, (h10, (h11, (h12, ()))))))), ((h13, (h14, (h15, (h16, (h17, (h18, ((spHeadsN b m o p).1, ()))))))), ()))))))) else some (.ret (((spHeadsN b m o p).2.2, ()), ((), ()))) := by
  intro k
  induction k with
  | zero => intro m p o i h1 h2 h3; omega
  | succ k ih =>
    intro m p o i h1 h2 h3 h4
    rw [slkrow_19]
    unfold stepkrow_19
    cases m with
    | zero =>
      rw [bif_false (by simp; omega), if_pos (by rfl)]
      rfl
    | succ m =>
      rw [bif_true (by simp; omega), spHeadsN_succ]
      by_cases a1 : (spHead b p).2.2 = 0
      · rw [bif_true (by simpa using a1), if_neg (notNe a1)]
        have hg : decide (o.length + [((spHead b p).fst.fst, ((spHead b p).fst.snd.fst.fst, (spHead b p).fst.snd.fst.snd.fst, ()), ())].length ≤ 4294967296) = true := decide_eq_true (show o.length + 1 ≤ 4294967296 by omega)
        rw [bif_true (by rw [Bool.and_eq_true]; exact ⟨rfl, hg⟩), wrap_i64 (n := i + 1) (by omega) (by omega)]
        exact ih m _ _ (i + 1) (by omega) (by omega) (by omega) (by simp; omega)
      · rw [bif_false (by simpa using a1), if_pos a1, if_neg a1]
noncomputable def bodykrow (a0 : List Int) (a1 : Int) : Option iokrow.Res := bif decide (0 ≤ 1) && (decide (1 ≤ 4294967296) && (decide (0 ≤ a1) && decide (a1 ≤ (↑a0.length : Int)))) then bif decide ((↑a0.length : Int) - a1 < 1) then some (Out.pan (1, ())) else bif decide (0 ≤ 0) && decide (0 < (↑(List.take (Int.toNat 1) (List.drop a1.toNat a0)).length : Int)) then bif (List.take (Int.toNat 1) (List.drop a1.toNat a0)).getD (Int.toNat 0) 0 != 0 then some (Out.pan (71, ())) else bif (spGet 10 1 a0 (a1 + 1)).snd.snd != 0 then some (Out.pan ((spGet 10 1 a0 (a1 + 1)).snd.snd, ())) else bif decide ((spGet 5 15 a0 (spGet 10 1 a0 (a1 + 1)).snd.fst).snd.snd = 0) then bif decide (IntKind.i32.wrap (spZag (spGet 5 15 a0 (spGet 10 1 a0 (a1 + 1)).snd.fst).fst) < 0) then some (Out.pan (72, ())) else bif decide ((spTake a0 (spGet 5 15 a0 (spGet 10 1 a0 (a1 + 1)).snd.fst).snd.fst (-1)).snd.snd = 0) then bif decide ((spTake a0 (spTake a0 (spGet 5 15 a0 (spGet 10 1 a0 (a1 + 1)).snd.fst).snd.fst (-1)).snd.fst (-1)).snd.snd = 0) then bif decide ((spGet 5 15 a0 (spTake a0 (spTake a0 (spGet 5 15 a0 (spGet 10 1 a0 (a1 + 1)).snd.fst).snd.fst (-1)).snd.fst (-1)).snd.fst).snd.snd = 0) then bif decide (IntKind.i32.wrap (spZag (spGet 5 15 a0 (spTake a0 (spTake a0 (spGet 5 15 a0 (spGet 10 1 a0 (a1 + 1)).snd.fst).snd.fst (-1)).snd.fst (-1)).snd.fst).fst) < 0) then some (Out.pan (5, ())) else bif decide (16 < IntKind.i32.wrap (spZag (spGet 5 15 a0 (spTake a0 (spTake a0 (spGet 5 15 a0 (spGet 10 1 a0 (a1 + 1)).snd.fst).snd.fst (-1)).snd.fst (-1)).snd.fst).fst)) then some (Out.pan (9, ())) else (Fkrow_19 ((IntKind.i32.wrap (spZag (spGet 5 15 a0 (spTake a0 (spTake a0 (spGet 5 15 a0 (spGet 10 1 a0 (a1 + 1)).snd.fst).snd.fst (-1)).snd.fst (-1)).snd.fst).fst), (0, ())), ((a0, ((spGet 5 15 a0 (spTake a0 (spTake a0 (spGet 5 15 a0 (spGet 10 1 a0 (a1 + 1)).snd.fst).snd.fst (-1)).snd.fst (-1)).snd.fst).snd.fst, ())), ((0, (0, (false, ([], (false, ([], ([], ()))))))), ((spZag (spGet 10 1 a0 (a1 + 1)).fst, (IntKind.i32.wrap (IntKind.i32.wrap (spZag (spGet 5 15 a0 (spGet 10 1 a0 (a1 + 1)).snd.fst).fst)), ((spTake a0 (spGet 5 15 a0 (spGet 10 1 a0 (a1 + 1)).snd.fst).snd.fst (-1)).fst.fst, ((spTake a0 (spGet 5 15 a0 (spGet 10 1 a0 (a1 + 1)).snd.fst).snd.fst (-1)).fst.snd.fst, ((spTake a0 (spTake a0 (spGet 5 15 a0 (spGet 10 1 a0 (a1 + 1)).snd.fst).snd.fst (-1)).snd.fst (-1)).fst.fst, ((spTake a0 (spTake a0 (spGet 5 15 a0 (spGet 10 1 a0 (a1 + 1)).snd.fst).snd.fst (-1)).snd.fst (-1)).fst.snd.fst, ([], ()))))))), ()))))).run fun y => match y with | .ret ((x54, ()), ((), ())) => (some (Out.pan (x54, ()))) | .pan (.ret ((), ((), (x55, x56, ()), (x57, x58, x59, x60, x61, x62, x63, ()), (x64, x65, x66, x67, x68, x69, x70, ()), ()))) => (bif decide (x56 < (↑x55.length : Int)) then some (Out.pan (2, ())) else some (Out.ret (((x64, x65, (x66, x67, ()), (x68, x69, ()), x70, ()), ()), (x55, x56, ()), ()))) else some (Out.pan ((spGet 5 15 a0 (spTake a0 (spTake a0 (spGet 5 15 a0 (spGet 10 1 a0 (a1 + 1)).snd.fst).snd.fst (-1)).snd.fst (-1)).snd.fst).snd.snd, ())) else some (Out.pan ((spTake a0 (spTake a0 (spGet 5 15 a0 (spGet 10 1 a0 (a1 + 1)).snd.fst).snd.fst (-1)).snd.fst (-1)).snd.snd, ())) else some (Out.pan ((spTake a0 (spGet 5 15 a0 (spGet 10 1 a0 (a1 + 1)).snd.fst).snd.fst (-1)).snd.snd, ())) else some (Out.pan ((spGet 5 15 a0 (spGet 10 1 a0 (a1 + 1)).snd.fst).snd.snd, ())) else none else none
theorem runkrow (a0 : List Int) (a1 : Int) : Io.run tt hdkrow dr lpkrow iokrow Go.Proofs.Try.f31 (((), ()), (a0, a1, ()), ()) = bodykrow a0 a1 := by kernel_rfl
theorem okkrow : HcOk prog 31 (ioHd iokrow Fkrow) := by
  have hcs : HcsOk prog cskrow := .cons okknumber (.cons okkcount (.cons okktake (.cons okpGet (.cons okkblob (.cons okkheader .nil)))))
  refine fn_sound (n := 400) hm (cs := cskrow) hcs (lp := lpkrow) (fn := Go.Proofs.Try.f31) (by kernel_rfl) (by kernel_rfl) (by kernel_rfl) iokrow
    (.step (h0 := loHd lokrow_19 Fkrow_19) (by kernel_rfl) (loop_sound (n := 400) hm (cs := cskrow) hcs (lp := lpkrow) (fn := Go.Proofs.Try.f31) (.done (by kernel_rfl)) lokrow_19 Fkrow_19 ?_) (.done (by kernel_rfl))) Fkrow ?_
  · rintro ⟨⟨(n : Int), (i : Int), ⟨⟩⟩, ⟨(b : List Int), (p : Int), ⟨⟩⟩, ⟨(h6 : Int), (h7 : Int), (h8 : Bool), (h9 : List Int), (h10 : Bool), (h11 : List Int), (h12 : List Head), ⟨⟩⟩, ⟨(h13 : Int), (h14 : Int), (h15 : Bool), (h16 : List Int), (h17 : Bool), (h18 : List Int), (o : List Head), ⟨⟩⟩, ⟨⟩⟩ y hw hy
    obtain ⟨hg, hy⟩ := Tr.guard hy
    simp only [Bool.and_eq_true, decide_eq_true_eq] at hg
    obtain ⟨hi, h0, hs, ho⟩ := hg
    have hi : i = 0 := hi
    have h0 : 0 ≤ n := h0
    have hs : n ≤ 16 := hs
    have ho : o = [] := ho
    subst hi ho
    refine ⟨n.toNat + 1, (loopkrow b n h0 hs h6 h7 h8 h9 h10 h11 h12 h13 h14 h15 h16 h17 h18 _ n.toNat p [] 0 (by omega) (by omega) (by omega) rfl).trans ?_⟩
    rw [← hy]
    simp only [Tr.val_ite, decide_eq_true_eq, Tr.val_ret]
  · rintro ⟨⟨⟨⟩, ⟨⟩⟩, ⟨⟨(b : List Int), (p : Int), ⟨⟩⟩, ⟨⟩⟩⟩ out hw ho
    obtain ⟨hg, ho⟩ := Tr.guard ho
    have hg : p = 0 := by simpa using hg
    subst hg
    refine (runkrow b 0).trans ?_
    rw [← ho]
    simp only [Tr.val_ite, Tr.val_ret, decide_eq_true_eq]
    unfold bodykrow
    rw [bif_true (by simp)]
    by_cases h0 : b.length = 0
    · have e : spRow b = (spNone, 1) := by unfold spRow; rw [if_pos h0]
      rw [e, bif_true (by simp; omega)]
      rfl
    rw [bif_false (by simp; omega)]
    obtain ⟨c, l, rfl⟩ : ∃ c l, b = c :: l := by
      cases b with
      | nil => exact absurd rfl h0
      | cons c l => exact ⟨c, l, rfl⟩
    rw [bif_true (by simp)]
    by_cases h1 : c = 0
    rotate_left
    · have e : spRow (c :: l) = (spNone, 71) := by unfold spRow; rw [if_neg h0, if_pos (by simpa using h1)]
      rw [e, bif_true (by simpa using h1)]
      rfl
    have h1' : (c :: l).getD 0 0 = 0 := h1
    rw [bif_false (by simpa using h1)]
    generalize hb : c :: l = b at *
    have hz : (0 : Int) + 1 = 1 := rfl
    rw [hz]
    by_cases h2 : (spGet 10 1 b 1).2.2 = 0
    rotate_left
    · have e : spRow b = (spNone, (spGet 10 1 b 1).2.2) := by unfold spRow; rw [if_neg h0, if_neg (by simpa using h1'), if_pos h2]
      rw [e, bif_true (by simpa using h2), if_neg h2]
    rw [bif_false (by simpa using h2)]
    have hr := @spNum_range b
    have hE : spEnd b = (spHeads b (spTake b (spTake b (spNum b (spGet 10 1 b 1).2.1).2.1 (-1)).2.1 (-1)).2.1).2.1 := rfl
    generalize hq1 : (spGet 10 1 b 1).2.1 = q1 at *
    have eR : spRow b = if (spNum b q1).2.2 ≠ 0 then (spNone, (spNum b q1).2.2) else if (spNum b q1).1 < 0 then (spNone, 72) else if (spTake b (spNum b q1).2.1 (-1)).2.2 ≠ 0 then (spNone, (spTake b (spNum b q1).2.1 (-1)).2.2) else
      if (spTake b (spTake b (spNum b q1).2.1 (-1)).2.1 (-1)).2.2 ≠ 0 then (spNone, (spTake b (spTake b (spNum b q1).2.1 (-1)).2.1 (-1)).2.2) else
      if (spHeads b (spTake b (spTake b (spNum b q1).2.1 (-1)).2.1 (-1)).2.1).2.2 ≠ 0 then (spNone, (spHeads b (spTake b (spTake b (spNum b q1).2.1 (-1)).2.1 (-1)).2.1).2.2) else
      if (spHeads b (spTake b (spTake b (spNum b q1).2.1 (-1)).2.1 (-1)).2.1).2.1 < (b.length : Int) then (spNone, 2) else
      ((spZag (spGet 10 1 b 1).1, (spNum b q1).1, (spTake b (spNum b q1).2.1 (-1)).1, (spTake b (spTake b (spNum b q1).2.1 (-1)).2.1 (-1)).1, (spHeads b (spTake b (spTake b (spNum b q1).2.1 (-1)).2.1 (-1)).2.1).1, ()), 0) := by
      unfold spRow; rw [if_neg h0, if_neg (by simpa using h1'), if_neg (by simpa using h2), hq1]
    have hn : ∀ p, IntKind.i32.wrap (spZag (spGet 5 15 b p).fst) = (spNum b p).1 := fun _ => rfl
    have hq : ∀ p, (spGet 5 15 b p).2.1 = (spNum b p).2.1 := fun _ => rfl
    have he : ∀ p, (spGet 5 15 b p).2.2 = (spNum b p).2.2 := fun _ => rfl
    have hw32 : IntKind.i32.wrap (spNum b q1).1 = (spNum b q1).1 := wrap_id (k := .i32) (inR_wrap _ _)
    simp only [hn, hq, he]
    rw [eR, hE, hw32]
    by_cases c1 : (spNum b q1).2.2 = 0
    rotate_left
    · rw [bif_false (by simpa using c1), if_pos c1, if_neg c1]
    rw [bif_true (by simpa using c1), if_neg (notNe c1)]
    by_cases c2 : (spNum b q1).1 < 0
    · rw [bif_true (by simpa using c2), if_pos c2]; rfl
    rw [bif_false (by simpa using c2), if_neg c2]
    generalize hT1 : spTake b (spNum b q1).2.1 (-1) = T1
    by_cases c3 : T1.2.2 = 0
    rotate_left
    · rw [bif_false (by simpa using c3), if_pos c3, if_neg c3]
    rw [bif_true (by simpa using c3), if_neg (notNe c3)]
    generalize hT2 : spTake b T1.2.1 (-1) = T2
    by_cases c4 : T2.2.2 = 0
    rotate_left
    · rw [bif_false (by simpa using c4), if_pos c4, if_neg c4]
    rw [bif_true (by simpa using c4), if_neg (notNe c4)]
    by_cases c5 : (spNum b T2.2.1).2.2 = 0
    rotate_left
    · have eH : spHeads b T2.2.1 = ([], 0, (spNum b T2.2.1).2.2) := by unfold spHeads; rw [if_pos c5]
      rw [bif_false (by simpa using c5), eH, if_pos c5, if_neg c5]
    rw [bif_true (by simpa using c5)]
    by_cases c6 : (spNum b T2.2.1).1 < 0
    · have eH : spHeads b T2.2.1 = ([], 0, 5) := by unfold spHeads; rw [if_neg (notNe c5), if_pos c6]
      rw [bif_true (by simpa using c6), eH]; rfl
    rw [bif_false (by simpa using c6)]
    by_cases c7 : 16 < (spNum b T2.2.1).1
    · have eH : spHeads b T2.2.1 = ([], 0, 9) := by unfold spHeads; rw [if_neg (notNe c5), if_neg c6, if_pos c7]
      rw [bif_true (by simpa using c7), eH]; rfl
    have eH : spHeads b T2.2.1 = spHeadsN b (spNum b T2.2.1).1.toNat [] (spNum b T2.2.1).2.1 := by unfold spHeads; rw [if_neg (notNe c5), if_neg c6, if_neg c7]
    rw [bif_false (by simpa using c7), eH]
    unfold Fkrow_19
    simp only [Tr.run_ite, Tr.run_ret]
    have hgd : (decide True && (decide ((0 : Int) ≤ (spNum b T2.2.1).1) && (decide ((spNum b T2.2.1).1 ≤ (16 : Int)) && decide True))) = true := by
      simp only [Bool.and_eq_true, decide_eq_true_eq]
      exact ⟨trivial, by omega, by omega, trivial⟩
    rw [if_pos hgd]
    generalize spHeadsN b (spNum b T2.2.1).1.toNat [] (spNum b T2.2.1).2.1 = r
    by_cases c8 : r.2.2 = 0
    · rw [if_pos (decide_eq_true c8), if_neg (notNe c8)]
      by_cases c9 : r.2.1 < (b.length : Int)
      · simp only [c9, decide_true, cond_true, if_true]
        rfl
      · simp only [c9, decide_false, cond_false, if_false]
        rfl
    · rw [if_neg (by simpa using c8), if_pos c8, if_neg c8]


end
end Go.Proofs.Ytnppjkijhcampaa.Sym

/- rec.Get. -/
namespace Go.Proofs.Ytnppjkijhcampaa.Sym
open Go
set_option linter.unusedSimpArgs false
set_option linter.unusedVariables false
noncomputable section

/-! ### leat/rec.Get -/
--@defer leat/rec.Get$1 11
noncomputable abbrev iokGet : Io := ⟨[dL, dI], [], [], [dRow, dI, dI], none⟩
noncomputable def FkGet (d : iokGet.In) : Tr iokGet.Res := .ret (.ret (((spRec d.1.1 d.1.2.1).1, (spRec d.1.1 d.1.2.1).2.1, (spRec d.1.1 d.1.2.1).2.2, ()), ()))
noncomputable abbrev cskGet : List (Nat × Hc) := [(30, ioHd iopGet32 FpGet32), (31, ioHd iokrow Fkrow)]
noncomputable def hdkGet : Hd := hdT cskGet
noncomputable def lpkGet : Lp := lpT []

noncomputable def bodykGet (a0 : List Int) (a1 : Int) : Option iokGet.Res := bif (spGet 5 15 a0 a1).snd.snd != 0 then some (Out.ret (((0, 0, (false, [], ()), (false, [], ()), [], ()), 0, (spGet 5 15 a0 a1).snd.snd, ()), ())) else bif decide (IntKind.i32.wrap (spZag (spGet 5 15 a0 a1).fst) < 0) then some (Out.ret (((0, 0, (false, [], ()), (false, [], ()), [], ()), 0, 5, ()), ())) else bif decide (16384 < IntKind.i32.wrap (spZag (spGet 5 15 a0 a1).fst)) then some (Out.ret (((0, 0, (false, [], ()), (false, [], ()), [], ()), 0, 4, ()), ())) else bif decide (IntKind.i64.wrap ((↑a0.length : Int) - (spGet 5 15 a0 a1).snd.fst) < IntKind.i64.wrap (IntKind.i32.wrap (spZag (spGet 5 15 a0 a1).fst))) then some (Out.ret (((0, 0, (false, [], ()), (false, [], ()), [], ()), 0, 1, ()), ())) else bif decide (0 ≤ (spGet 5 15 a0 a1).snd.fst) && (decide ((spGet 5 15 a0 a1).snd.fst ≤ IntKind.i64.wrap ((spGet 5 15 a0 a1).snd.fst + IntKind.i64.wrap (IntKind.i32.wrap (spZag (spGet 5 15 a0 a1).fst)))) && (decide (IntKind.i64.wrap ((spGet 5 15 a0 a1).snd.fst + IntKind.i64.wrap (IntKind.i32.wrap (spZag (spGet 5 15 a0 a1).fst))) ≤ IntKind.i64.wrap ((spGet 5 15 a0 a1).snd.fst + IntKind.i64.wrap (IntKind.i32.wrap (spZag (spGet 5 15 a0 a1).fst)))) && decide (IntKind.i64.wrap ((spGet 5 15 a0 a1).snd.fst + IntKind.i64.wrap (IntKind.i32.wrap (spZag (spGet 5 15 a0 a1).fst))) ≤ (↑a0.length : Int)))) then bif decide ((spRow (List.drop (spGet 5 15 a0 a1).snd.fst.toNat (List.take (IntKind.i64.wrap ((spGet 5 15 a0 a1).snd.fst + IntKind.i64.wrap (IntKind.i32.wrap (spZag (spGet 5 15 a0 a1).fst)))).toNat a0))).snd = 0) then some (Out.ret ((((spRow (List.drop (spGet 5 15 a0 a1).snd.fst.toNat (List.take (IntKind.i64.wrap ((spGet 5 15 a0 a1).snd.fst + IntKind.i64.wrap (IntKind.i32.wrap (spZag (spGet 5 15 a0 a1).fst)))).toNat a0))).fst.fst, (spRow (List.drop (spGet 5 15 a0 a1).snd.fst.toNat (List.take (IntKind.i64.wrap ((spGet 5 15 a0 a1).snd.fst + IntKind.i64.wrap (IntKind.i32.wrap (spZag (spGet 5 15 a0 a1).fst)))).toNat a0))).fst.snd.fst, ((spRow (List.drop (spGet 5 15 a0 a1).snd.fst.toNat (List.take (IntKind.i64.wrap ((spGet 5 15 a0 a1).snd.fst + IntKind.i64.wrap (IntKind.i32.wrap (spZag (spGet 5 15 a0 a1).fst)))).toNat a0))).fst.snd.snd.fst.fst, (spRow (List.drop (spGet 5 15 a0 a1).snd.fst.toNat (List.take (IntKind.i64.wrap ((spGet 5 15 a0 a1).snd.fst + IntKind.i64.wrap (IntKind.i32.wrap (spZag (spGet 5 15 a0 a1).fst)))).toNat a0))).fst.snd.snd.fst.snd.fst, ()), ((spRow (List.drop (spGet 5 15 a0 a1).snd.fst.toNat (List.take (IntKind.i64.wrap ((spGet 5 15 a0 a1).snd.fst + IntKind.i64.wrap (IntKind.i32.wrap (spZag (spGet 5 15 a0 a1).fst)))).toNat a0))).fst.snd.snd.snd.fst.fst, (spRow (List.drop (spGet 5 15 a0 a1).snd.fst.toNat (List.take (IntKind.i64.wrap ((spGet 5 15 a0 a1).snd.fst + IntKind.i64.wrap (IntKind.i32.wrap (spZag (spGet 5 15 a0 a1).fst)))).toNat a0))).fst.snd.snd.snd.fst.snd.fst, ()), (spRow (List.drop (spGet 5 15 a0 a1).snd.fst.toNat (List.take (IntKind.i64.wrap ((spGet 5 15 a0 a1).snd.fst + IntKind.i64.wrap (IntKind.i32.wrap (spZag (spGet 5 15 a0 a1).fst)))).toNat a0))).fst.snd.snd.snd.snd.fst, ()), IntKind.i64.wrap ((spGet 5 15 a0 a1).snd.fst + IntKind.i64.wrap (IntKind.i32.wrap (spZag (spGet 5 15 a0 a1).fst))), 0, ()), ())) else some (Out.ret (((0, 0, (false, [], ()), (false, [], ()), [], ()), 0, (spRow (List.drop (spGet 5 15 a0 a1).snd.fst.toNat (List.take (IntKind.i64.wrap ((spGet 5 15 a0 a1).snd.fst + IntKind.i64.wrap (IntKind.i32.wrap (spZag (spGet 5 15 a0 a1).fst)))).toNat a0))).snd, ()), ())) else none
theorem runkGet (a0 : List Int) (a1 : Int) : Io.runD tt hdkGet dr lpkGet 64 128 iokGet Go.Proofs.Try.f11 29 Go.Proofs.Try.f29 11 ((a0, a1, ()), ()) = bodykGet a0 a1 := by kernel_rfl
theorem okkGet : HcOk prog 11 (ioHd iokGet FkGet) := by
  have htt := ttOf_ok Go.Proofs.Try.prog 400
  have hcs : HcsOk prog cskGet := .cons okpGet32 (.cons okkrow .nil)
  refine defer_sound (P := prog) htt hm (hdT_ok hcs) (orderD_ok htt) (fn := Go.Proofs.Try.f11) (by kernel_rfl) (by kernel_rfl) iokGet (kb2 := 64) (kbG := 128) (by decide) (by decide)
    (i1 := 1) (ops1 := regOps (seqL (seqR (fnCode Go.Proofs.Try.f11)))) (by kernel_rfl) rfl (by kernel_rfl)
    (o1 := ((regOps (seqL (seqR (fnCode Go.Proofs.Try.f11))))[1]?).getD default) (t := 11) (aT := #[]) (by kernel_rfl) (by kernel_rfl) (by kernel_rfl) (by kernel_rfl) (lp := lpkGet) (by kernel_rfl) (noLoops (by kernel_rfl))
    (g := 29) (gfn := Go.Proofs.Try.f29) (i2 := 0) (gops := regOps (seqL (fnCode Go.Proofs.Try.f29))) (grest := seqR (fnCode Go.Proofs.Try.f29))
    (by kernel_rfl) (by kernel_rfl) (by kernel_rfl) rfl rfl (by kernel_rfl) (oo := ((regOps (seqL (fnCode Go.Proofs.Try.f29)))[0]?).getD default) (by kernel_rfl) (by kernel_rfl) (by kernel_rfl) (by kernel_rfl) (by kernel_rfl) FkGet ?_
  rintro ⟨⟨(b : List Int), (p : Int), ⟨⟩⟩, ⟨⟩⟩ out hw ho
  cases ho
  refine (runkGet b p).trans ?_
  have hb : b.length ≤ maxLen := hw.1.1.1
  rw [maxLen_eq] at hb
  show _ = some (Out.ret (((spRec b p).1, (spRec b p).2.1, (spRec b p).2.2, ()), ()))
  have hr := @spNum_range b p
  unfold bodykGet
  by_cases h0 : (spNum b p).2.2 = 0
  rotate_left
  · have h0' : (spGet 5 15 b p).2.2 ≠ 0 := h0
    have e : spRec b p = (spNone, 0, (spGet 5 15 b p).2.2) := by unfold spRec; rw [if_pos h0]; rfl
    rw [e, bif_true (by simpa using h0')]
    rfl
  have hk := spNum_ok h0
  have h0' : (spGet 5 15 b p).2.2 = 0 := h0
  rw [bif_false (by simpa using h0')]
  generalize hq : (spGet 5 15 b p).2.1 = q
  generalize hn : IntKind.wrap .i32 (spZag (spGet 5 15 b p).1) = n
  have hq : (spNum b p).2.1 = q := hq
  have hn : (spNum b p).1 = n := hn
  have e0 : spRec b p = if n < 0 then (spNone, 0, 5) else if 16384 < n then (spNone, 0, 4) else if (b.length : Int) - q < n then (spNone, 0, 1)
      else if (spRow ((b.drop q.toNat).take n.toNat)).2 ≠ 0 then (spNone, 0, (spRow ((b.drop q.toNat).take n.toNat)).2)
      else ((spRow ((b.drop q.toNat).take n.toNat)).1, q + n, 0) := by unfold spRec; rw [if_neg (by simpa using h0), hq, hn]
  rw [e0]
  rw [hq] at hk
  rw [hn] at hr
  by_cases h1 : n < 0
  · rw [bif_true (by simpa using h1), if_pos h1]
    rfl
  rw [bif_false (by simpa using h1), if_neg h1]
  by_cases h2 : 16384 < n
  · rw [bif_true (by simpa using h2), if_pos h2]
    rfl
  rw [bif_false (by simpa using h2), if_neg h2, wrap_i64 (n := (b.length : Int) - q) (by omega) (by omega), wrap_i64 (n := n) (by omega) (by omega)]
  by_cases h3 : (b.length : Int) - q < n
  · rw [bif_true (by simpa using h3), if_pos h3]
    rfl
  rw [bif_false (by simpa using h3), if_neg h3, wrap_i64 (n := q + n) (by omega) (by omega), bif_true (by simp; omega), List.drop_take, show (q + n).toNat - q.toNat = n.toNat by omega]
  generalize spRow ((b.drop q.toNat).take n.toNat) = r
  by_cases h4 : r.2 = 0
  · rw [bif_true (by simpa using h4), if_neg (notNe h4)]
  · rw [bif_false (by simpa using h4), if_pos h4]
    rfl

end
end Go.Proofs.Ytnppjkijhcampaa.Sym

/- rec: badBlob, shape, blob, body, Put, Size, Check. -/
namespace Go.Proofs.Ytnppjkijhcampaa.Sym
open Go
set_option linter.unusedSimpArgs false
set_option linter.unusedVariables false
noncomputable section

def spBad (b : Blob) : Bool := b.1 && decide ((0 : Int) < (b.2.1.length : Int))
/-- A blob written. -/
noncomputable def spBlob (b : Blob) : List Int := if b.1 = true then spDig (spZig (-1)) else spDig (spZig b.2.1.length) ++ b.2.1
noncomputable def spWHead (h : Head) : List Int := spDig (spZig h.1.length) ++ (h.1 ++ spBlob h.2.1)
noncomputable def spWHeads (hs : List Head) : List Int := hs.flatMap spWHead
/-- A row's body. -/
noncomputable def spBody (r : RowD) : List Int := 0 :: (spDig (spZig r.1) ++ (spDig (spZig r.2.1) ++ (spBlob r.2.2.1 ++ (spBlob r.2.2.2.1 ++ (spDig (spZig r.2.2.2.2.1.length) ++ spWHeads r.2.2.2.2.1)))))
/-- The headers' first error. -/
noncomputable def spHErr : List Head → Int
  | [] => 0
  | h :: hs => if (spUtf h.1).2 = false then 6 else if spBad h.2.1 = true then 70 else spHErr hs
noncomputable def spShape (r : RowD) : Int :=
  if r.2.1 < 0 then 72 else if spBad r.2.2.1 = true ∨ spBad r.2.2.2.1 = true then 70 else if 16 < (r.2.2.2.2.1.length : Int) then 9 else spHErr r.2.2.2.2.1
noncomputable def spCheck (r : RowD) : Int := if spShape r ≠ 0 then spShape r else if 16384 < ((spBody r).length : Int) then 4 else 0
/-- The body, if there is no error; the error. -/
noncomputable def spBodyR (r : RowD) : List Int × Int := if spCheck r = 0 then (spBody r, 0) else ([], spCheck r)
noncomputable def spPutR (r : RowD) : List Int × Int := if spCheck r = 0 then (spDig (spZig (spBody r).length) ++ spBody r, 0) else ([], spCheck r)
noncomputable def spRoom (r : RowD) : Bool := decide ((spBody r).length ≤ 4294967000)
theorem spDig_len (u : Int) : (spDig u).length ≤ 11 := by
  unfold spDig
  have := spHi_len 10 u
  simp only [List.length_append, List.length_cons, List.length_nil]
  omega

/-! ### leat/rec.badBlob -/
noncomputable abbrev iokbad : Io := ⟨[dBlob], [], [], [dB], none⟩
noncomputable def Fkbad (d : iokbad.In) : Tr iokbad.Res := .ret (.ret ((spBad d.1.1, ()), ()))
noncomputable abbrev cskbad : List (Nat × Hc) := []
noncomputable def hdkbad : Hd := hdT cskbad
noncomputable def lpkbad : Lp := lpT []

noncomputable def bodykbad (a0 : Bool) (a1 : List Int) : Option iokbad.Res := bif a0 then some (Out.ret ((decide (0 < (↑a1.length : Int)), ()), ())) else some (Out.ret ((false, ()), ()))
theorem runkbad (a0 : Bool) (a1 : List Int) : Io.run tt hdkbad dr lpkbad iokbad Go.Proofs.Try.f67 (((a0, a1, ()), ()), ()) = bodykbad a0 a1 := by kernel_rfl
theorem okkbad : HcOk prog 67 (ioHd iokbad Fkbad) := by
  refine fn_sound (n := 400) hm (cs := cskbad) .nil (lp := lpkbad) (fn := Go.Proofs.Try.f67) (by kernel_rfl) (by kernel_rfl) (by kernel_rfl) iokbad (.done (by kernel_rfl)) Fkbad ?_
  rintro ⟨⟨⟨(n : Bool), (b : List Int), ⟨⟩⟩, ⟨⟩⟩, ⟨⟩⟩ out hw ho
  cases ho
  refine (runkbad n b).trans ?_
  cases n <;> rfl

/-! ### leat/rec.shape -/
noncomputable abbrev iokshape : Io := ⟨[dRow], [], [], [dI], none⟩
noncomputable def Fkshape (d : iokshape.In) : Tr iokshape.Res := .ret (.ret ((spShape d.1.1, ()), ()))
noncomputable abbrev cskshape : List (Nat × Hc) := [(67, ioHd iokbad Fkbad), (66, ioHd iopUtf FpUtf)]
noncomputable def hdkshape : Hd := hdT cskshape
noncomputable abbrev lokshape_9 : Lo := ⟨⟨[.any, .any, .any, .any, .any, .any, .any, .any, .any, .any, .any, .any, .any, .any, .any, .any, .any, .any, .any, .any, .any, .any, .any, .any, .any, .any, .one (.hol (.sl 49 (Ty.str.prod ((Ty.bool.prod ((Ty.sl 5 (Ty.int IntKind.u8)).prod Ty.unit)).prod Ty.unit)))), .one (.hol (.int IntKind.i64)), .one (.hol (.int IntKind.i64)), .any, .any, .any, .any, .any, .any, .any, .any, .any, .any, .any, .any, .any, .any, .any, .any], []⟩, [(.ret, ⟨[.any, .any, .one (.hol (.int IntKind.i64)), .any, .any, .any, .any, .any, .any, .any, .any, .any, .any, .any, .any, .any, .any, .any, .any, .any, .any, .any, .any, .any, .any, .any, .any, .any, .any, .any, .any, .any, .any, .any, .any, .any, .any, .any, .any, .any, .any, .any, .any, .any, .any], []⟩), (.exit 1, ⟨[.any, .any, .any, .any, .any, .any, .any, .any, .any, .any, .any, .any, .any, .any, .any, .any, .any, .any, .any, .any, .any, .any, .any, .any, .any, .any, .any, .any, .any, .any, .any, .any, .any, .any, .any, .any, .any, .any, .any, .any, .any, .any, .any, .any, .any], []⟩)]⟩
-- Fkshape_9 : lokshape_9.st.den → Tr (DenX lokshape_9.xs) | ((h7, (h8, (h9, ()))), ())
noncomputable def Fkshape_9 (d : lokshape_9.st.den) : Tr (DenX lokshape_9.xs) :=
  .ite (decide (d.1.2.2.1 = (0 : Int)) && decide (d.1.2.1 = (d.1.1.length : Int))) (.ite (decide (spHErr d.1.1 = (0 : Int))) (.ret (.pan (.ret ((), ((), ()))))) (.ret (.ret ((), ((spHErr d.1.1, ()), ()))))) .no
noncomputable def lpkshape : Lp := lpT [(9, loHd lokshape_9 Fkshape_9)]
noncomputable def stepkshape_9 {R : Type} (h7 : List tHead.den) (h8 : Int) (h9 : Int) (next : List tHead.den → Int → Int → Option R) (out : DenX lokshape_9.xs → Option R) : Option R := bif decide (h9 < h8) then bif decide (0 ≤ h9) && decide (h9 < (↑h7.length : Int)) then bif !(spUtf (h7.getD h9.toNat ([], (false, [], ()), ())).fst).snd then out (.ret ((), ((6, ()), ()))) else bif spBad ((h7.getD h9.toNat ([], (false, [], ()), ())).snd.fst.fst, (h7.getD h9.toNat ([], (false, [], ()), ())).snd.fst.snd.fst, ()) then out (.ret ((), ((70, ()), ()))) else next (h7) (h8) (IntKind.i64.wrap (h9 + 1)) else none else out (.pan (.ret ((), ((), ()))))
noncomputable def itkshape_9 (n : Nat) (h7 : List tHead.den) (h8 : Int) (h9 : Int) : Option (DenX lokshape_9.xs) := lpN tt hdkshape dr lpkshape 0 Go.Proofs.Try.f59 (topL Go.Proofs.Try.f59 0) n (lokshape_9.st.mk' ((h7, (h8, (h9, ()))), ())) (decX lokshape_9.xs)
theorem slkshape_9 (n : Nat) (h7 : List tHead.den) (h8 : Int) (h9 : Int) : itkshape_9 (n + 1) h7 h8 h9 = stepkshape_9 h7 h8 h9 (itkshape_9 n) some := by kernel_rfl
theorem loopkshape (hs : List Head) (hm : hs.length ≤ maxLen) : ∀ (k i : Nat), i ≤ hs.length → hs.length < i + k →
    itkshape_9 k hs (hs.length : Int) (i : Int) = if spHErr (hs.drop i) = 0 then some (.pan (.ret ((), ((), ())))) else some (.ret ((), ((spHErr (hs.drop i), ()), ()))) := by
  intro k
  induction k with
  | zero => intro i h1 h2; omega
  | succ k ih =>
    intro i h1 h2
    rw [slkshape_9]
    unfold stepkshape_9
    by_cases h3 : i < hs.length
    · have e : (hs.getD (i : Int).toNat ([], (false, [], ()), ()) : Head) = hs[i] := getD_lt h3
      rw [List.drop_eq_getElem_cons h3, ← e, wrap_succ h3 hm]
      generalize (hs.getD (i : Int).toNat ([], (false, [], ()), ()) : Head) = x
      obtain ⟨x1, ⟨x2, x3, ⟨⟩⟩, ⟨⟩⟩ := x
      rw [bif_true (by simpa using h3), bif_true (by simp [h3])]
      by_cases h4 : (spUtf x1).2 = false
      · have eE : spHErr ((x1, (x2, x3, ()), ()) :: hs.drop (i + 1)) = 6 := by unfold spHErr; rw [if_pos h4]
        rw [eE, bif_true (by simpa using h4)]
        rfl
      · rw [bif_false (by simpa using h4)]
        by_cases h5 : spBad (x2, x3, ()) = true
        · have eE : spHErr ((x1, (x2, x3, ()), ()) :: hs.drop (i + 1)) = 70 := by unfold spHErr; rw [if_neg h4, if_pos h5]
          rw [eE, bif_true h5]
          rfl
        · have eE : spHErr ((x1, (x2, x3, ()), ()) :: hs.drop (i + 1)) = spHErr (hs.drop (i + 1)) := by rw [spHErr, if_neg h4, if_neg h5]
          rw [eE, bif_false (by simpa using h5)]
          exact ih (i + 1) h3 (by omega)
    · rw [List.drop_of_length_le (by omega)]
      rw [bif_false (by simpa using h3)]
      rfl
noncomputable def bodykshape (a0 : Int) (a1 : Int) (a2 : Bool) (a3 : List Int) (a4 : Bool) (a5 : List Int) (a6 : List tHead.den) : Option iokshape.Res := bif decide (a1 < 0) then some (Out.ret ((72, ()), ())) else bif spBad (a2, a3, ()) then some (Out.ret ((70, ()), ())) else bif spBad (a4, a5, ()) then some (Out.ret ((70, ()), ())) else bif decide (16 < (↑a6.length : Int)) then some (Out.ret ((9, ()), ())) else (Fkshape_9 ((a6, ((↑a6.length : Int), (0, ()))), ())).run fun y => match y with | .ret ((), ((x15, ()), ())) => (some (Out.ret ((x15, ()), ()))) | .pan (.ret ((), ((), ()))) => (some (Out.ret ((0, ()), ())))
theorem runkshape (a0 : Int) (a1 : Int) (a2 : Bool) (a3 : List Int) (a4 : Bool) (a5 : List Int) (a6 : List tHead.den) : Io.run tt hdkshape dr lpkshape iokshape Go.Proofs.Try.f59 (((a0, a1, (a2, a3, ()), (a4, a5, ()), a6, ()), ()), ()) = bodykshape a0 a1 a2 a3 a4 a5 a6 := by kernel_rfl
theorem okkshape : HcOk prog 59 (ioHd iokshape Fkshape) := by
  have hcs : HcsOk prog cskshape := .cons okkbad (.cons okpUtf .nil)
  refine fn_sound (n := 400) hm (cs := cskshape) hcs (lp := lpkshape) (fn := Go.Proofs.Try.f59) (by kernel_rfl) (by kernel_rfl) (by kernel_rfl) iokshape
    (.step (h0 := loHd lokshape_9 Fkshape_9) (by kernel_rfl) (loop_sound (n := 400) hm (cs := cskshape) hcs (lp := lpkshape) (fn := Go.Proofs.Try.f59) (.done (by kernel_rfl)) lokshape_9 Fkshape_9 ?_) (.done (by kernel_rfl))) Fkshape ?_
  · rintro ⟨⟨(hs : List Head), (n : Int), (i : Int), ⟨⟩⟩, ⟨⟩⟩ y hw hy
    obtain ⟨hg, hy⟩ := Tr.guard hy
    simp only [Bool.and_eq_true, decide_eq_true_eq] at hg
    obtain ⟨hi, hn⟩ := hg
    have hi : i = 0 := hi
    have hn : n = hs.length := hn
    subst hi hn
    refine ⟨hs.length + 1, (loopkshape hs hw.1.1.1 _ 0 (by omega) (by omega)).trans ?_⟩
    rw [← hy]
    simp only [Tr.val_ite, decide_eq_true_eq, Tr.val_ret, List.drop_zero]
  · rintro ⟨⟨⟨(a0 : Int), (a1 : Int), ⟨(a2 : Bool), (a3 : List Int), ⟨⟩⟩, ⟨(a4 : Bool), (a5 : List Int), ⟨⟩⟩, (a6 : List Head), ⟨⟩⟩, ⟨⟩⟩, ⟨⟩⟩ out hw ho
    cases ho
    refine (runkshape a0 a1 a2 a3 a4 a5 a6).trans ?_
    unfold bodykshape Fkshape_9
    show _ = some (Out.ret ((spShape (a0, a1, (a2, a3, ()), (a4, a5, ()), a6, ()), ()), ()))
    unfold spShape
    simp only [Tr.run_ite, Tr.run_ret]
    by_cases h1 : a1 < 0
    · rw [bif_true (by simpa using h1), if_pos h1]
    rw [bif_false (by simpa using h1), if_neg h1]
    by_cases h2 : spBad (a2, a3, ()) = true
    · rw [bif_true h2, if_pos (.inl h2)]
    rw [bif_false (by simpa using h2)]
    by_cases h3 : spBad (a4, a5, ()) = true
    · rw [bif_true h3, if_pos (.inr h3)]
    rw [bif_false (by simpa using h3), if_neg (show ¬ (spBad (a2, a3, ()) = true ∨ spBad (a4, a5, ()) = true) from fun h => h.elim h2 h3)]
    by_cases h4 : 16 < (a6.length : Int)
    · rw [bif_true (by simpa using h4), if_pos h4]
    rw [bif_false (by simpa using h4), if_neg h4]
    rw [if_pos (by simp)]
    by_cases h5 : spHErr a6 = 0
    · rw [if_pos (decide_eq_true h5), h5]
    · rw [if_neg (by simpa using h5)]

/-! ### leat/rec.blob -/
noncomputable abbrev iokwblob : Io := ⟨[dO, dBlob], [], [], [dO], none⟩
noncomputable def Fkwblob (d : iokwblob.In) : Tr iokwblob.Res := .ite (decide (d.1.1.length + (spBlob d.1.2.1).length ≤ 4294967296)) (.ret (.ret ((d.1.1 ++ spBlob d.1.2.1, ()), ()))) .no
noncomputable abbrev cskwblob : List (Nat × Hc) := [(37, ioHd iopPut FpPut)]
noncomputable def hdkwblob : Hd := hdT cskwblob
noncomputable def lpkwblob : Lp := lpT []

noncomputable def bodykwblob (a0 : List Int) (a1 : Bool) (a2 : List Int) : Option iokwblob.Res := bif a1 then bif decide (a0.length + (spDig (spZig (-1))).length ≤ 4294967296) then some (Out.ret ((a0 ++ spDig (spZig (-1)), ()), ())) else none else bif decide (a0.length + (spDig (spZig (↑a2.length : Int))).length ≤ 4294967296) then bif decide ((a0 ++ spDig (spZig (↑a2.length : Int))).length + a2.length ≤ 4294967296) then some (Out.ret ((a0 ++ spDig (spZig (↑a2.length : Int)) ++ a2, ()), ())) else none else none
theorem runkwblob (a0 : List Int) (a1 : Bool) (a2 : List Int) : Io.run tt hdkwblob dr lpkwblob iokwblob Go.Proofs.Try.f61 ((a0, (a1, a2, ()), ()), ()) = bodykwblob a0 a1 a2 := by kernel_rfl
theorem okkwblob : HcOk prog 61 (ioHd iokwblob Fkwblob) := by
  refine fn_sound (n := 400) hm (cs := cskwblob) (.cons okpPut .nil) (lp := lpkwblob) (fn := Go.Proofs.Try.f61) (by kernel_rfl) (by kernel_rfl) (by kernel_rfl) iokwblob (.done (by kernel_rfl)) Fkwblob ?_
  rintro ⟨⟨(o : List Int), ⟨(n : Bool), (b : List Int), ⟨⟩⟩, ⟨⟩⟩, ⟨⟩⟩ out hw ho
  obtain ⟨hg, ho⟩ := Tr.guard ho
  have hg : o.length + (spBlob (n, b, ())).length ≤ 4294967296 := by simpa using hg
  cases ho
  refine (runkwblob o n b).trans ?_
  show _ = some (Out.ret ((o ++ spBlob (n, b, ()), ()), ()))
  unfold bodykwblob
  cases n with
  | true =>
    have e : spBlob (true, b, ()) = spDig (spZig (-1)) := rfl
    rw [e] at hg ⊢
    rw [bif_true rfl, bif_true (by simpa using hg)]
  | false =>
    have e : spBlob (false, b, ()) = spDig (spZig b.length) ++ b := rfl
    rw [e] at hg ⊢
    simp only [List.length_append] at hg
    rw [bif_false rfl, bif_true (by simp; omega), bif_true (by simp; omega), List.append_assoc]

/-! ### leat/rec.body -/
noncomputable abbrev iokbody : Io := ⟨[dRow], [], [], [dO, dI], none⟩
noncomputable def Fkbody (d : iokbody.In) : Tr iokbody.Res := .ite (spRoom d.1.1) (.ret (.ret (((spBodyR d.1.1).1, (spBodyR d.1.1).2, ()), ()))) .no
noncomputable abbrev cskbody : List (Nat × Hc) := [(59, ioHd iokshape Fkshape), (60, ioHd iopPutAll FpPutAll), (37, ioHd iopPut FpPut), (61, ioHd iokwblob Fkwblob)]
noncomputable def hdkbody : Hd := hdT cskbody
noncomputable abbrev lokbody_10 : Lo := ⟨⟨[.any, .any, .any, .any, .any, .one (.onl 5 (Ty.int IntKind.u8) 11), .any, .any, .any, .any, .any, .any, .any, .any, .any, .any, .any, .any, .any, .any, .any, .any, .any, .any, .any, .any, .any, .any, .any, .any, .any, .any, .any, .any, .any, .any, .any, .one (.hol (.sl 49 (Ty.str.prod ((Ty.bool.prod ((Ty.sl 5 (Ty.int IntKind.u8)).prod Ty.unit)).prod Ty.unit)))), .one (.hol (.int IntKind.i64)), .one (.hol (.int IntKind.i64)), .any, .any, .any, .any, .any, .any, .any, .any, .any, .any, .any, .any, .any, .any, .any, .any, .any, .any, .any, .any, .any, .any], []⟩, [(.exit 0, ⟨[.any, .any, .any, .any, .any, .one (.onl 5 (Ty.int IntKind.u8) 11), .any, .any, .any, .any, .any, .any, .any, .any, .any, .any, .any, .any, .any, .any, .any, .any, .any, .any, .any, .any, .any, .any, .any, .any, .any, .any, .any, .any, .any, .any, .any, .any, .any, .any, .any, .any, .any, .any, .any, .any, .any, .any, .any, .any, .any, .any, .any, .any, .any, .any, .any, .any, .any, .any, .any, .any], []⟩)]⟩
-- Fkbody_10 : lokbody_10.st.den → Tr (DenX lokbody_10.xs) | ((h7, (h8, (h9, (h10, ())))), ())
noncomputable def Fkbody_10 (d : lokbody_10.st.den) : Tr (DenX lokbody_10.xs) :=
  .ite (decide (d.1.2.2.2.1 = (0 : Int)) && (decide (d.1.2.2.1 = (d.1.2.1.length : Int)) && decide (d.1.1.length + (spWHeads d.1.2.1).length ≤ 4294967296))) (.ret (.ret ((), ((d.1.1 ++ spWHeads d.1.2.1, ()), ())))) .no
noncomputable def lpkbody : Lp := lpT [(10, loHd lokbody_10 Fkbody_10)]
noncomputable def stepkbody_10 {R : Type} (h7 : List Int) (h8 : List tHead.den) (h9 : Int) (h10 : Int) (next : List Int → List tHead.den → Int → Int → Option R) (out : DenX lokbody_10.xs → Option R) : Option R := bif decide (h10 < h9) then bif decide (0 ≤ h10) && decide (h10 < (↑h8.length : Int)) then bif decide (h7.length + (spDig (spZig (↑(List.length (h8.getD h10.toNat ([], (false, [], ()), ())).fst) : Int))).length ≤ 4294967296) then bif decide ((h7 ++ spDig (spZig (↑(List.length (h8.getD h10.toNat ([], (false, [], ()), ())).fst) : Int))).length + List.length (h8.getD h10.toNat ([], (false, [], ()), ())).fst ≤ 4294967296) then bif decide ((h7 ++ spDig (spZig (↑(List.length (h8.getD h10.toNat ([], (false, [], ()), ())).fst) : Int)) ++ (h8.getD h10.toNat ([], (false, [], ()), ())).fst).length + (spBlob ((h8.getD h10.toNat ([], (false, [], ()), ())).snd.fst.fst, (h8.getD h10.toNat ([], (false, [], ()), ())).snd.fst.snd.fst, ())).length ≤ 4294967296) then next (h7 ++ spDig (spZig (↑(List.length (h8.getD h10.toNat ([], (false, [], ()), ())).fst) : Int)) ++ (h8.getD h10.toNat ([], (false, [], ()), ())).fst ++ spBlob ((h8.getD h10.toNat ([], (false, [], ()), ())).snd.fst.fst, (h8.getD h10.toNat ([], (false, [], ()), ())).snd.fst.snd.fst, ())) (h8) (h9) (IntKind.i64.wrap (h10 + 1)) else none else none else none else none else out (.ret ((), ((h7, ()), ())))
noncomputable def itkbody_10 (n : Nat) (h7 : List Int) (h8 : List tHead.den) (h9 : Int) (h10 : Int) : Option (DenX lokbody_10.xs) := lpN tt hdkbody dr lpkbody 0 Go.Proofs.Try.f36 (topL Go.Proofs.Try.f36 0) n (lokbody_10.st.mk' ((h7, (h8, (h9, (h10, ())))), ())) (decX lokbody_10.xs)
theorem slkbody_10 (n : Nat) (h7 : List Int) (h8 : List tHead.den) (h9 : Int) (h10 : Int) : itkbody_10 (n + 1) h7 h8 h9 h10 = stepkbody_10 h7 h8 h9 h10 (itkbody_10 n) some := by kernel_rfl
theorem loopkbody (hs : List Head) (hm : hs.length ≤ maxLen) : ∀ (k i : Nat) (o : List Int), i ≤ hs.length → hs.length < i + k → o.length + (spWHeads (hs.drop i)).length ≤ 4294967296 →
    itkbody_10 k o hs (hs.length : Int) (i : Int) = some (.ret ((), ((o ++ spWHeads (hs.drop i), ()), ()))) := by
  intro k
  induction k with
  | zero => intro i o h1 h2; omega
  | succ k ih =>
    intro i o h1 h2 h3
    rw [slkbody_10]
    unfold stepkbody_10
    by_cases h4 : i < hs.length
    · have e : (hs.getD (i : Int).toNat ([], (false, [], ()), ()) : Head) = hs[i] := getD_lt h4
      rw [List.drop_eq_getElem_cons h4, ← e] at h3 ⊢
      rw [wrap_succ h4 hm]
      generalize (hs.getD (i : Int).toNat ([], (false, [], ()), ()) : Head) = x at *
      obtain ⟨x1, ⟨x2, x3, ⟨⟩⟩, ⟨⟩⟩ := x
      have eW : spWHeads ((x1, (x2, x3, ()), ()) :: hs.drop (i + 1)) = spDig (spZig x1.length) ++ (x1 ++ spBlob (x2, x3, ())) ++ spWHeads (hs.drop (i + 1)) := by simp [spWHeads, spWHead]
      rw [eW] at h3 ⊢
      simp only [List.length_append] at h3
      rw [bif_true (by simpa using h4), bif_true (by simp [h4]), bif_true (by simp; omega), bif_true (by simp; omega), bif_true (by simp; omega)]
      refine (ih (i + 1) _ h4 (by omega) (by simp only [List.length_append]; omega)).trans ?_
      simp only [List.append_assoc]
    · rw [List.drop_of_length_le (by omega)]
      rw [bif_false (by simpa using h4)]
      simp [spWHeads]
noncomputable def bodykbody (a0 : Int) (a1 : Int) (a2 : Bool) (a3 : List Int) (a4 : Bool) (a5 : List Int) (a6 : List tHead.den) : Option iokbody.Res := bif spShape (a0, a1, (a2, a3, ()), (a4, a5, ()), a6, ()) != 0 then some (Out.ret (([], spShape (a0, a1, (a2, a3, ()), (a4, a5, ()), a6, ()), ()), ())) else bif decide ([0].length + (spDigs [a0, IntKind.i64.wrap a1]).length ≤ 4294967296) then bif decide (([0] ++ spDigs [a0, IntKind.i64.wrap a1]).length + (spBlob (a2, a3, ())).length ≤ 4294967296) then bif decide (List.length ([0] ++ spDigs [a0, IntKind.i64.wrap a1] ++ spBlob (a2, a3, ())) + (spBlob (a4, a5, ())).length ≤ 4294967296) then bif decide (List.length ([0] ++ spDigs [a0, IntKind.i64.wrap a1] ++ spBlob (a2, a3, ()) ++ spBlob (a4, a5, ())) + (spDig (spZig (↑a6.length : Int))).length ≤ 4294967296) then (Fkbody_10 (([0] ++ spDigs [a0, IntKind.i64.wrap a1] ++ spBlob (a2, a3, ()) ++ spBlob (a4, a5, ()) ++ spDig (spZig (↑a6.length : Int)), (a6, ((↑a6.length : Int), (0, ())))), ())).run fun y => match y with | .ret ((), ((x16, ()), ())) => (bif decide (16384 < (↑x16.length : Int)) then some (Out.ret (([], 4, ()), ())) else some (Out.ret ((x16, 0, ()), ()))) else none else none else none else none
theorem runkbody (a0 : Int) (a1 : Int) (a2 : Bool) (a3 : List Int) (a4 : Bool) (a5 : List Int) (a6 : List tHead.den) : Io.run tt hdkbody dr lpkbody iokbody Go.Proofs.Try.f36 (((a0, a1, (a2, a3, ()), (a4, a5, ()), a6, ()), ()), ()) = bodykbody a0 a1 a2 a3 a4 a5 a6 := by kernel_rfl
theorem okkbody : HcOk prog 36 (ioHd iokbody Fkbody) := by
  have hcs : HcsOk prog cskbody := .cons okkshape (.cons okpPutAll (.cons okpPut (.cons okkwblob .nil)))
  refine fn_sound (n := 400) hm (cs := cskbody) hcs (lp := lpkbody) (fn := Go.Proofs.Try.f36) (by kernel_rfl) (by kernel_rfl) (by kernel_rfl) iokbody
    (.step (h0 := loHd lokbody_10 Fkbody_10) (by kernel_rfl) (loop_sound (n := 400) hm (cs := cskbody) hcs (lp := lpkbody) (fn := Go.Proofs.Try.f36) (.done (by kernel_rfl)) lokbody_10 Fkbody_10 ?_) (.done (by kernel_rfl))) Fkbody ?_
  · rintro ⟨⟨(o : List Int), (hs : List Head), (n : Int), (i : Int), ⟨⟩⟩, ⟨⟩⟩ y hw hy
    obtain ⟨hg, hy⟩ := Tr.guard hy
    simp only [Bool.and_eq_true, decide_eq_true_eq] at hg
    obtain ⟨hi, hn, hl⟩ := hg
    have hi : i = 0 := hi
    have hn : n = hs.length := hn
    subst hi hn
    refine ⟨hs.length + 1, (loopkbody hs hw.1.2.1.1 _ 0 o (by omega) (by omega) hl).trans ?_⟩
    rw [← hy]
    rfl
  · rintro ⟨⟨⟨(a0 : Int), (a1 : Int), ⟨(a2 : Bool), (a3 : List Int), ⟨⟩⟩, ⟨(a4 : Bool), (a5 : List Int), ⟨⟩⟩, (a6 : List Head), ⟨⟩⟩, ⟨⟩⟩, ⟨⟩⟩ out hw ho
    obtain ⟨hg, ho⟩ := Tr.guard ho
    cases ho
    refine (runkbody a0 a1 a2 a3 a4 a5 a6).trans ?_
    have ha1 : inR .i32 a1 := hw.1.1.2.1
    have ha1 : -2147483648 ≤ a1 ∧ a1 ≤ 2147483647 := by simpa [inR, IntKind.min, IntKind.max, IntKind.signed, IntKind.bits] using ha1
    have hg : (spBody (a0, a1, (a2, a3, ()), (a4, a5, ()), a6, ())).length ≤ 4294967000 := of_decide_eq_true hg
    show _ = some (Out.ret (((spBodyR (a0, a1, (a2, a3, ()), (a4, a5, ()), a6, ())).1, (spBodyR (a0, a1, (a2, a3, ()), (a4, a5, ()), a6, ())).2, ()), ()))
    have eb : spBody (a0, a1, (a2, a3, ()), (a4, a5, ()), a6, ()) = [0] ++ spDigs [a0, a1] ++ spBlob (a2, a3, ()) ++ spBlob (a4, a5, ()) ++ spDig (spZig a6.length) ++ spWHeads a6 := by
      simp [spBody, spDigs]
    have hl := hg
    rw [eb] at hl
    simp only [List.length_append] at hl
    unfold bodykbody spBodyR
    rw [wrap_i64 (n := a1) (by omega) (by omega)]
    generalize hr : ((a0, a1, (a2, a3, ()), (a4, a5, ()), a6, ()) : RowD) = r at *
    by_cases h1 : spShape r = 0
    rotate_left
    · have ec : spCheck r = spShape r := by unfold spCheck; rw [if_pos h1]
      rw [bif_true (by simpa using h1), ec, if_neg h1]
    have ec : spCheck r = if 16384 < ((spBody r).length : Int) then 4 else 0 := by unfold spCheck; rw [if_neg (notNe h1)]
    rw [bif_false (by simpa using h1), bif_true (by simp; omega), bif_true (by simp; omega), bif_true (by simp; omega), bif_true (by simp; omega)]
    unfold Fkbody_10
    simp only [Tr.run_ite, Tr.run_ret]
    rw [if_pos (by simp; omega), ← eb, ec]
    by_cases h2 : 16384 < ((spBody r).length : Int)
    · rw [bif_true (by simpa using h2), if_pos h2]
      rfl
    · rw [bif_false (by simpa using h2), if_neg h2]
      rfl

/-! ### leat/rec.Put -/
noncomputable abbrev iokPut : Io := ⟨[dRow], [], [], [dO, dI], none⟩
noncomputable def FkPut (d : iokPut.In) : Tr iokPut.Res := .ite (spRoom d.1.1) (.ret (.ret (((spPutR d.1.1).1, (spPutR d.1.1).2, ()), ()))) .no
noncomputable abbrev cskPut : List (Nat × Hc) := [(36, ioHd iokbody Fkbody), (37, ioHd iopPut FpPut)]
noncomputable def hdkPut : Hd := hdT cskPut
noncomputable def lpkPut : Lp := lpT []

noncomputable def bodykPut (a0 : Int) (a1 : Int) (a2 : Bool) (a3 : List Int) (a4 : Bool) (a5 : List Int) (a6 : List tHead.den) : Option iokPut.Res := bif spRoom (a0, a1, (a2, a3, ()), (a4, a5, ()), a6, ()) then bif (spBodyR (a0, a1, (a2, a3, ()), (a4, a5, ()), a6, ())).snd != 0 then some (Out.ret (([], (spBodyR (a0, a1, (a2, a3, ()), (a4, a5, ()), a6, ())).snd, ()), ())) else bif decide ((spDig (spZig (↑(spBodyR (a0, a1, (a2, a3, ()), (a4, a5, ()), a6, ())).fst.length : Int))).length + (spBodyR (a0, a1, (a2, a3, ()), (a4, a5, ()), a6, ())).fst.length ≤ 4294967296) then some (Out.ret ((spDig (spZig (↑(spBodyR (a0, a1, (a2, a3, ()), (a4, a5, ()), a6, ())).fst.length : Int)) ++ (spBodyR (a0, a1, (a2, a3, ()), (a4, a5, ()), a6, ())).fst, 0, ()), ())) else none else none
theorem runkPut (a0 : Int) (a1 : Int) (a2 : Bool) (a3 : List Int) (a4 : Bool) (a5 : List Int) (a6 : List tHead.den) : Io.run tt hdkPut dr lpkPut iokPut Go.Proofs.Try.f15 (((a0, a1, (a2, a3, ()), (a4, a5, ()), a6, ()), ()), ()) = bodykPut a0 a1 a2 a3 a4 a5 a6 := by kernel_rfl
theorem okkPut : HcOk prog 15 (ioHd iokPut FkPut) := by
  refine fn_sound (n := 400) hm (cs := cskPut) (.cons okkbody (.cons okpPut .nil)) (lp := lpkPut) (fn := Go.Proofs.Try.f15) (by kernel_rfl) (by kernel_rfl) (by kernel_rfl) iokPut (.done (by kernel_rfl)) FkPut ?_
  rintro ⟨⟨⟨(a0 : Int), (a1 : Int), ⟨(a2 : Bool), (a3 : List Int), ⟨⟩⟩, ⟨(a4 : Bool), (a5 : List Int), ⟨⟩⟩, (a6 : List Head), ⟨⟩⟩, ⟨⟩⟩, ⟨⟩⟩ out hw ho
  obtain ⟨hg, ho⟩ := Tr.guard ho
  cases ho
  refine (runkPut a0 a1 a2 a3 a4 a5 a6).trans ?_
  show _ = some (Out.ret (((spPutR (a0, a1, (a2, a3, ()), (a4, a5, ()), a6, ())).1, (spPutR (a0, a1, (a2, a3, ()), (a4, a5, ()), a6, ())).2, ()), ()))
  have hg : spRoom (a0, a1, (a2, a3, ()), (a4, a5, ()), a6, ()) = true := hg
  unfold bodykPut
  generalize ((a0, a1, (a2, a3, ()), (a4, a5, ()), a6, ()) : RowD) = r at *
  have hl : (spBody r).length ≤ 4294967000 := of_decide_eq_true hg
  rw [bif_true hg]
  by_cases h1 : spCheck r = 0
  · have e1 : spBodyR r = (spBody r, 0) := by unfold spBodyR; rw [if_pos h1]
    have e2 : spPutR r = (spDig (spZig (spBody r).length) ++ spBody r, 0) := by unfold spPutR; rw [if_pos h1]
    have := spDig_len (spZig (spBody r).length)
    rw [e1, e2]
    rw [bif_false (by rfl), bif_true (by simp; omega)]
  · have e1 : spBodyR r = ([], spCheck r) := by unfold spBodyR; rw [if_neg h1]
    have e2 : spPutR r = ([], spCheck r) := by unfold spPutR; rw [if_neg h1]
    rw [e1, e2, bif_true (by simpa using h1)]

/-! ### leat/rec.Size -/
noncomputable abbrev iokSize : Io := ⟨[dRow], [], [], [dI, dI], none⟩
noncomputable def FkSize (d : iokSize.In) : Tr iokSize.Res := .ite (spRoom d.1.1) (.ret (.ret ((((spPutR d.1.1).1.length : Int), (spPutR d.1.1).2, ()), ()))) .no
noncomputable abbrev cskSize : List (Nat × Hc) := [(15, ioHd iokPut FkPut)]
noncomputable def hdkSize : Hd := hdT cskSize
noncomputable def lpkSize : Lp := lpT []

noncomputable def bodykSize (a0 : Int) (a1 : Int) (a2 : Bool) (a3 : List Int) (a4 : Bool) (a5 : List Int) (a6 : List tHead.den) : Option iokSize.Res := bif spRoom (a0, a1, (a2, a3, ()), (a4, a5, ()), a6, ()) then some (Out.ret (((↑(spPutR (a0, a1, (a2, a3, ()), (a4, a5, ()), a6, ())).fst.length : Int), (spPutR (a0, a1, (a2, a3, ()), (a4, a5, ()), a6, ())).snd, ()), ())) else none
theorem runkSize (a0 : Int) (a1 : Int) (a2 : Bool) (a3 : List Int) (a4 : Bool) (a5 : List Int) (a6 : List tHead.den) : Io.run tt hdkSize dr lpkSize iokSize Go.Proofs.Try.f26 (((a0, a1, (a2, a3, ()), (a4, a5, ()), a6, ()), ()), ()) = bodykSize a0 a1 a2 a3 a4 a5 a6 := by kernel_rfl
theorem okkSize : HcOk prog 26 (ioHd iokSize FkSize) := by
  refine fn_sound (n := 400) hm (cs := cskSize) (.cons okkPut .nil) (lp := lpkSize) (fn := Go.Proofs.Try.f26) (by kernel_rfl) (by kernel_rfl) (by kernel_rfl) iokSize (.done (by kernel_rfl)) FkSize ?_
  rintro ⟨⟨⟨(a0 : Int), (a1 : Int), ⟨(a2 : Bool), (a3 : List Int), ⟨⟩⟩, ⟨(a4 : Bool), (a5 : List Int), ⟨⟩⟩, (a6 : List Head), ⟨⟩⟩, ⟨⟩⟩, ⟨⟩⟩ out hw ho
  obtain ⟨hg, ho⟩ := Tr.guard ho
  cases ho
  refine (runkSize a0 a1 a2 a3 a4 a5 a6).trans ?_
  have hg : spRoom (a0, a1, (a2, a3, ()), (a4, a5, ()), a6, ()) = true := hg
  unfold bodykSize
  rw [bif_true hg]

/-! ### leat/rec.Check -/
noncomputable abbrev iokCheck : Io := ⟨[dRow], [], [], [dI], none⟩
noncomputable def FkCheck (d : iokCheck.In) : Tr iokCheck.Res := .ite (spRoom d.1.1) (.ret (.ret ((spCheck d.1.1, ()), ()))) .no
noncomputable abbrev cskCheck : List (Nat × Hc) := [(36, ioHd iokbody Fkbody)]
noncomputable def hdkCheck : Hd := hdT cskCheck
noncomputable def lpkCheck : Lp := lpT []

noncomputable def bodykCheck (a0 : Int) (a1 : Int) (a2 : Bool) (a3 : List Int) (a4 : Bool) (a5 : List Int) (a6 : List tHead.den) : Option iokCheck.Res := bif spRoom (a0, a1, (a2, a3, ()), (a4, a5, ()), a6, ()) then some (Out.ret (((spBodyR (a0, a1, (a2, a3, ()), (a4, a5, ()), a6, ())).snd, ()), ())) else none
theorem runkCheck (a0 : Int) (a1 : Int) (a2 : Bool) (a3 : List Int) (a4 : Bool) (a5 : List Int) (a6 : List tHead.den) : Io.run tt hdkCheck dr lpkCheck iokCheck Go.Proofs.Try.f24 (((a0, a1, (a2, a3, ()), (a4, a5, ()), a6, ()), ()), ()) = bodykCheck a0 a1 a2 a3 a4 a5 a6 := by kernel_rfl
theorem okkCheck : HcOk prog 24 (ioHd iokCheck FkCheck) := by
  refine fn_sound (n := 400) hm (cs := cskCheck) (.cons okkbody .nil) (lp := lpkCheck) (fn := Go.Proofs.Try.f24) (by kernel_rfl) (by kernel_rfl) (by kernel_rfl) iokCheck (.done (by kernel_rfl)) FkCheck ?_
  rintro ⟨⟨⟨(a0 : Int), (a1 : Int), ⟨(a2 : Bool), (a3 : List Int), ⟨⟩⟩, ⟨(a4 : Bool), (a5 : List Int), ⟨⟩⟩, (a6 : List Head), ⟨⟩⟩, ⟨⟩⟩, ⟨⟩⟩ out hw ho
  obtain ⟨hg, ho⟩ := Tr.guard ho
  cases ho
  refine (runkCheck a0 a1 a2 a3 a4 a5 a6).trans ?_
  have hg : spRoom (a0, a1, (a2, a3, ()), (a4, a5, ()), a6, ()) = true := hg
  show _ = some (Out.ret ((spCheck (a0, a1, (a2, a3, ()), (a4, a5, ()), a6, ()), ()), ()))
  unfold bodykCheck
  generalize ((a0, a1, (a2, a3, ()), (a4, a5, ()), a6, ()) : RowD) = r at *
  rw [bif_true hg]
  by_cases h1 : spCheck r = 0
  · have e1 : spBodyR r = (spBody r, 0) := by unfold spBodyR; rw [if_pos h1]
    rw [e1, h1]
  · have e1 : spBodyR r = ([], spCheck r) := by unfold spBodyR; rw [if_neg h1]
    rw [e1]

end
end Go.Proofs.Ytnppjkijhcampaa.Sym
