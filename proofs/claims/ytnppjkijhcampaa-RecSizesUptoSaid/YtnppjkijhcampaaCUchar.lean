/- leatref04: one character. -/
import Derived.Test.YtnppjkijhcampaaCUref

namespace Go.Proofs.Ytnppjkijhcampaa.Sym
open Go
set_option linter.unusedSimpArgs false
set_option linter.unusedVariables false
noncomputable section

noncomputable def spLoOf (c : Int) : Int := if c = 240 then 144 else if c = 224 then 160 else 128
noncomputable def spHiOf (c : Int) : Int := if c = 244 then 143 else if c = 237 then 159 else 191
/-- The length of the well-formed character at a place, 0 if there is none. -/
noncomputable def spChar (b : List Int) (p : Int) : Int :=
  if p < 0 ∨ (b.length : Int) ≤ p then 0
  else if b.getD p.toNat 0 < 128 then 1
  else if b.getD p.toNat 0 < 194 ∨ 244 < b.getD p.toNat 0 ∨ spIn b (p + 1) (spLoOf (b.getD p.toNat 0)) (spHiOf (b.getD p.toNat 0)) = false then 0
  else if b.getD p.toNat 0 < 224 then 2
  else if spIn b (p + 2) 128 191 = false then 0
  else if b.getD p.toNat 0 < 240 then 3
  else if spIn b (p + 3) 128 191 = false then 0
  else 4

/-! ### leat/leatref04.Char -/
noncomputable abbrev iorChar : Io := ⟨[dL, dI], [], [], [dI], none⟩
noncomputable def FrChar (d : iorChar.In) : Tr iorChar.Res := .ret (.ret ((spChar d.1.1 d.1.2.1, ()), ()))
noncomputable abbrev csrChar : List (Nat × Hc) := [(69, ioHd iorwithin Frwithin)]
noncomputable def hdrChar : Hd := hdT csrChar
noncomputable def lprChar : Lp := lpT []

noncomputable def bodyrChar (a0 : List Int) (a1 : Int) : Option iorChar.Res := bif decide (a1 < 0) then some (Out.ret ((0, ()), ())) else bif decide ((↑a0.length : Int) ≤ a1) then some (Out.ret ((0, ()), ())) else bif decide (0 ≤ a1) && decide (a1 < (↑a0.length : Int)) then bif decide (a0.getD a1.toNat 0 < 128) then some (Out.ret ((1, ()), ())) else bif a0.getD a1.toNat 0 == 224 then bif a0.getD a1.toNat 0 == 237 then bif a0.getD a1.toNat 0 == 240 then bif a0.getD a1.toNat 0 == 244 then bif decide (a0.getD a1.toNat 0 < 194) then some (Out.ret ((0, ()), ())) else bif decide (244 < a0.getD a1.toNat 0) then some (Out.ret ((0, ()), ())) else bif decide (0 ≤ IntKind.i64.wrap (a1 + 1)) then bif !spIn a0 (IntKind.i64.wrap (a1 + 1)) 144 143 then some (Out.ret ((0, ()), ())) else bif decide (a0.getD a1.toNat 0 < 224) then some (Out.ret ((2, ()), ())) else bif decide (0 ≤ IntKind.i64.wrap (a1 + 2)) then bif !spIn a0 (IntKind.i64.wrap (a1 + 2)) 128 191 then some (Out.ret ((0, ()), ())) else bif decide (a0.getD a1.toNat 0 < 240) then some (Out.ret ((3, ()), ())) else bif decide (0 ≤ IntKind.i64.wrap (a1 + 3)) then bif !spIn a0 (IntKind.i64.wrap (a1 + 3)) 128 191 then some (Out.ret ((0, ()), ())) else some (Out.ret ((4, ()), ())) else none else none else none else bif decide (a0.getD a1.toNat 0 < 194) then some (Out.ret ((0, ()), ())) else bif decide (244 < a0.getD a1.toNat 0) then some (Out.ret ((0, ()), ())) else bif decide (0 ≤ IntKind.i64.wrap (a1 + 1)) then bif !spIn a0 (IntKind.i64.wrap (a1 + 1)) 144 159 then some (Out.ret ((0, ()), ())) else bif decide (a0.getD a1.toNat 0 < 224) then some (Out.ret ((2, ()), ())) else bif decide (0 ≤ IntKind.i64.wrap (a1 + 2)) then bif !spIn a0 (IntKind.i64.wrap (a1 + 2)) 128 191 then some (Out.ret ((0, ()), ())) else bif decide (a0.getD a1.toNat 0 < 240) then some (Out.ret ((3, ()), ())) else bif decide (0 ≤ IntKind.i64.wrap (a1 + 3)) then bif !spIn a0 (IntKind.i64.wrap (a1 + 3)) 128 191 then some (Out.ret ((0, ()), ())) else some (Out.ret ((4, ()), ())) else none else none else none else bif a0.getD a1.toNat 0 == 244 then bif decide (a0.getD a1.toNat 0 < 194) then some (Out.ret ((0, ()), ())) else bif decide (244 < a0.getD a1.toNat 0) then some (Out.ret ((0, ()), ())) else bif decide (0 ≤ IntKind.i64.wrap (a1 + 1)) then bif !spIn a0 (IntKind.i64.wrap (a1 + 1)) 160 143 then some (Out.ret ((0, ()), ())) else bif decide (a0.getD a1.toNat 0 < 224) then some (Out.ret ((2, ()), ())) else bif decide (0 ≤ IntKind.i64.wrap (a1 + 2)) then bif !spIn a0 (IntKind.i64.wrap (a1 + 2)) 128 191 then some (Out.ret ((0, ()), ())) else bif decide (a0.getD a1.toNat 0 < 240) then some (Out.ret ((3, ()), ())) else bif decide (0 ≤ IntKind.i64.wrap (a1 + 3)) then bif !spIn a0 (IntKind.i64.wrap (a1 + 3)) 128 191 then some (Out.ret ((0, ()), ())) else some (Out.ret ((4, ()), ())) else none else none else none else bif decide (a0.getD a1.toNat 0 < 194) then some (Out.ret ((0, ()), ())) else bif decide (244 < a0.getD a1.toNat 0) then some (Out.ret ((0, ()), ())) else bif decide (0 ≤ IntKind.i64.wrap (a1 + 1)) then bif !spIn a0 (IntKind.i64.wrap (a1 + 1)) 160 159 then some (Out.ret ((0, ()), ())) else bif decide (a0.getD a1.toNat 0 < 224) then some (Out.ret ((2, ()), ())) else bif decide (0 ≤ IntKind.i64.wrap (a1 + 2)) then bif !spIn a0 (IntKind.i64.wrap (a1 + 2)) 128 191 then some (Out.ret ((0, ()), ())) else bif decide (a0.getD a1.toNat 0 < 240) then some (Out.ret ((3, ()), ())) else bif decide (0 ≤ IntKind.i64.wrap (a1 + 3)) then bif !spIn a0 (IntKind.i64.wrap (a1 + 3)) 128 191 then some (Out.ret ((0, ()), ())) else some (Out.ret ((4, ()), ())) else none else none else none else bif a0.getD a1.toNat 0 == 240 then bif a0.getD a1.toNat 0 == 244 then bif decide (a0.getD a1.toNat 0 < 194) then some (Out.ret ((0, ()), ())) else bif decide (244 < a0.getD a1.toNat 0) then some (Out.ret ((0, ()), ())) else bif decide (0 ≤ IntKind.i64.wrap (a1 + 1)) then bif !spIn a0 (IntKind.i64.wrap (a1 + 1)) 144 143 then some (Out.ret ((0, ()), ())) else bif decide (a0.getD a1.toNat 0 < 224) then some (Out.ret ((2, ()), ())) else bif decide (0 ≤ IntKind.i64.wrap (a1 + 2)) then bif !spIn a0 (IntKind.i64.wrap (a1 + 2)) 128 191 then some (Out.ret ((0, ()), ())) else bif decide (a0.getD a1.toNat 0 < 240) then some (Out.ret ((3, ()), ())) else bif decide (0 ≤ IntKind.i64.wrap (a1 + 3)) then bif !spIn a0 (IntKind.i64.wrap (a1 + 3)) 128 191 then some (Out.ret ((0, ()), ())) else some (Out.ret ((4, ()), ())) else none else none else none else bif decide (a0.getD a1.toNat 0 < 194) then some (Out.ret ((0, ()), ())) else bif decide (244 < a0.getD a1.toNat 0) then some (Out.ret ((0, ()), ())) else bif decide (0 ≤ IntKind.i64.wrap (a1 + 1)) then bif !spIn a0 (IntKind.i64.wrap (a1 + 1)) 144 191 then some (Out.ret ((0, ()), ())) else bif decide (a0.getD a1.toNat 0 < 224) then some (Out.ret ((2, ()), ())) else bif decide (0 ≤ IntKind.i64.wrap (a1 + 2)) then bif !spIn a0 (IntKind.i64.wrap (a1 + 2)) 128 191 then some (Out.ret ((0, ()), ())) else bif decide (a0.getD a1.toNat 0 < 240) then some (Out.ret ((3, ()), ())) else bif decide (0 ≤ IntKind.i64.wrap (a1 + 3)) then bif !spIn a0 (IntKind.i64.wrap (a1 + 3)) 128 191 then some (Out.ret ((0, ()), ())) else some (Out.ret ((4, ()), ())) else none else none else none else bif a0.getD a1.toNat 0 == 244 then bif decide (a0.getD a1.toNat 0 < 194) then some (Out.ret ((0, ()), ())) else bif decide (244 < a0.getD a1.toNat 0) then some (Out.ret ((0, ()), ())) else bif decide (0 ≤ IntKind.i64.wrap (a1 + 1)) then bif !spIn a0 (IntKind.i64.wrap (a1 + 1)) 160 143 then some (Out.ret ((0, ()), ())) else bif decide (a0.getD a1.toNat 0 < 224) then some (Out.ret ((2, ()), ())) else bif decide (0 ≤ IntKind.i64.wrap (a1 + 2)) then bif !spIn a0 (IntKind.i64.wrap (a1 + 2)) 128 191 then some (Out.ret ((0, ()), ())) else bif decide (a0.getD a1.toNat 0 < 240) then some (Out.ret ((3, ()), ())) else bif decide (0 ≤ IntKind.i64.wrap (a1 + 3)) then bif !spIn a0 (IntKind.i64.wrap (a1 + 3)) 128 191 then some (Out.ret ((0, ()), ())) else some (Out.ret ((4, ()), ())) else none else none else none else bif decide (a0.getD a1.toNat 0 < 194) then some (Out.ret ((0, ()), ())) else bif decide (244 < a0.getD a1.toNat 0) then some (Out.ret ((0, ()), ())) else bif decide (0 ≤ IntKind.i64.wrap (a1 + 1)) then bif !spIn a0 (IntKind.i64.wrap (a1 + 1)) 160 191 then some (Out.ret ((0, ()), ())) else bif decide (a0.getD a1.toNat 0 < 224) then some (Out.ret ((2, ()), ())) else bif decide (0 ≤ IntKind.i64.wrap (a1 + 2)) then bif !spIn a0 (IntKind.i64.wrap (a1 + 2)) 128 191 then some (Out.ret ((0, ()), ())) else bif decide (a0.getD a1.toNat 0 < 240) then some (Out.ret ((3, ()), ())) else bif decide (0 ≤ IntKind.i64.wrap (a1 + 3)) then bif !spIn a0 (IntKind.i64.wrap (a1 + 3)) 128 191 then some (Out.ret ((0, ()), ())) else some (Out.ret ((4, ()), ())) else none else none else none else bif a0.getD a1.toNat 0 == 237 then bif a0.getD a1.toNat 0 == 240 then bif a0.getD a1.toNat 0 == 244 then bif decide (a0.getD a1.toNat 0 < 194) then some (Out.ret ((0, ()), ())) else bif decide (244 < a0.getD a1.toNat 0) then some (Out.ret ((0, ()), ())) else bif decide (0 ≤ IntKind.i64.wrap (a1 + 1)) then bif !spIn a0 (IntKind.i64.wrap (a1 + 1)) 144 143 then some (Out.ret ((0, ()), ())) else bif decide (a0.getD a1.toNat 0 < 224) then some (Out.ret ((2, ()), ())) else bif decide (0 ≤ IntKind.i64.wrap (a1 + 2)) then bif !spIn a0 (IntKind.i64.wrap (a1 + 2)) 128 191 then some (Out.ret ((0, ()), ())) else bif decide (a0.getD a1.toNat 0 < 240) then some (Out.ret ((3, ()), ())) else bif decide (0 ≤ IntKind.i64.wrap (a1 + 3)) then bif !spIn a0 (IntKind.i64.wrap (a1 + 3)) 128 191 then some (Out.ret ((0, ()), ())) else some (Out.ret ((4, ()), ())) else none else none else none else bif decide (a0.getD a1.toNat 0 < 194) then some (Out.ret ((0, ()), ())) else bif decide (244 < a0.getD a1.toNat 0) then some (Out.ret ((0, ()), ())) else bif decide (0 ≤ IntKind.i64.wrap (a1 + 1)) then bif !spIn a0 (IntKind.i64.wrap (a1 + 1)) 144 159 then some (Out.ret ((0, ()), ())) else bif decide (a0.getD a1.toNat 0 < 224) then some (Out.ret ((2, ()), ())) else bif decide (0 ≤ IntKind.i64.wrap (a1 + 2)) then bif !spIn a0 (IntKind.i64.wrap (a1 + 2)) 128 191 then some (Out.ret ((0, ()), ())) else bif decide (a0.getD a1.toNat 0 < 240) then some (Out.ret ((3, ()), ())) else bif decide (0 ≤ IntKind.i64.wrap (a1 + 3)) then bif !spIn a0 (IntKind.i64.wrap (a1 + 3)) 128 191 then some (Out.ret ((0, ()), ())) else some (Out.ret ((4, ()), ())) else none else none else none else bif a0.getD a1.toNat 0 == 244 then bif decide (a0.getD a1.toNat 0 < 194) then some (Out.ret ((0, ()), ())) else bif decide (244 < a0.getD a1.toNat 0) then some (Out.ret ((0, ()), ())) else bif decide (0 ≤ IntKind.i64.wrap (a1 + 1)) then bif !spIn a0 (IntKind.i64.wrap (a1 + 1)) 128 143 then some (Out.ret ((0, ()), ())) else bif decide (a0.getD a1.toNat 0 < 224) then some (Out.ret ((2, ()), ())) else bif decide (0 ≤ IntKind.i64.wrap (a1 + 2)) then bif !spIn a0 (IntKind.i64.wrap (a1 + 2)) 128 191 then some (Out.ret ((0, ()), ())) else bif decide (a0.getD a1.toNat 0 < 240) then some (Out.ret ((3, ()), ())) else bif decide (0 ≤ IntKind.i64.wrap (a1 + 3)) then bif !spIn a0 (IntKind.i64.wrap (a1 + 3)) 128 191 then some (Out.ret ((0, ()), ())) else some (Out.ret ((4, ()), ())) else none else none else none else bif decide (a0.getD a1.toNat 0 < 194) then some (Out.ret ((0, ()), ())) else bif decide (244 < a0.getD a1.toNat 0) then some (Out.ret ((0, ()), ())) else bif decide (0 ≤ IntKind.i64.wrap (a1 + 1)) then bif !spIn a0 (IntKind.i64.wrap (a1 + 1)) 128 159 then some (Out.ret ((0, ()), ())) else bif decide (a0.getD a1.toNat 0 < 224) then some (Out.ret ((2, ()), ())) else bif decide (0 ≤ IntKind.i64.wrap (a1 + 2)) then bif !spIn a0 (IntKind.i64.wrap (a1 + 2)) 128 191 then some (Out.ret ((0, ()), ())) else bif decide (a0.getD a1.toNat 0 < 240) then some (Out.ret ((3, ()), ())) else bif decide (0 ≤ IntKind.i64.wrap (a1 + 3)) then bif !spIn a0 (IntKind.i64.wrap (a1 + 3)) 128 191 then some (Out.ret ((0, ()), ())) else some (Out.ret ((4, ()), ())) else none else none else none else bif a0.getD a1.toNat 0 == 240 then bif a0.getD a1.toNat 0 == 244 then bif decide (a0.getD a1.toNat 0 < 194) then some (Out.ret ((0, ()), ())) else bif decide (244 < a0.getD a1.toNat 0) then some (Out.ret ((0, ()), ())) else bif decide (0 ≤ IntKind.i64.wrap (a1 + 1)) then bif !spIn a0 (IntKind.i64.wrap (a1 + 1)) 144 143 then some (Out.ret ((0, ()), ())) else bif decide (a0.getD a1.toNat 0 < 224) then some (Out.ret ((2, ()), ())) else bif decide (0 ≤ IntKind.i64.wrap (a1 + 2)) then bif !spIn a0 (IntKind.i64.wrap (a1 + 2)) 128 191 then some (Out.ret ((0, ()), ())) else bif decide (a0.getD a1.toNat 0 < 240) then some (Out.ret ((3, ()), ())) else bif decide (0 ≤ IntKind.i64.wrap (a1 + 3)) then bif !spIn a0 (IntKind.i64.wrap (a1 + 3)) 128 191 then some (Out.ret ((0, ()), ())) else some (Out.ret ((4, ()), ())) else none else none else none else bif decide (a0.getD a1.toNat 0 < 194) then some (Out.ret ((0, ()), ())) else bif decide (244 < a0.getD a1.toNat 0) then some (Out.ret ((0, ()), ())) else bif decide (0 ≤ IntKind.i64.wrap (a1 + 1)) then bif !spIn a0 (IntKind.i64.wrap (a1 + 1)) 144 191 then some (Out.ret ((0, ()), ())) else bif decide (a0.getD a1.toNat 0 < 224) then some (Out.ret ((2, ()), ())) else bif decide (0 ≤ IntKind.i64.wrap (a1 + 2)) then bif !spIn a0 (IntKind.i64.wrap (a1 + 2)) 128 191 then some (Out.ret ((0, ()), ())) else bif decide (a0.getD a1.toNat 0 < 240) then some (Out.ret ((3, ()), ())) else bif decide (0 ≤ IntKind.i64.wrap (a1 + 3)) then bif !spIn a0 (IntKind.i64.wrap (a1 + 3)) 128 191 then some (Out.ret ((0, ()), ())) else some (Out.ret ((4, ()), ())) else none else none else none else bif a0.getD a1.toNat 0 == 244 then bif decide (a0.getD a1.toNat 0 < 194) then some (Out.ret ((0, ()), ())) else bif decide (244 < a0.getD a1.toNat 0) then some (Out.ret ((0, ()), ())) else bif decide (0 ≤ IntKind.i64.wrap (a1 + 1)) then bif !spIn a0 (IntKind.i64.wrap (a1 + 1)) 128 143 then some (Out.ret ((0, ()), ())) else bif decide (a0.getD a1.toNat 0 < 224) then some (Out.ret ((2, ()), ())) else bif decide (0 ≤ IntKind.i64.wrap (a1 + 2)) then bif !spIn a0 (IntKind.i64.wrap (a1 + 2)) 128 191 then some (Out.ret ((0, ()), ())) else bif decide (a0.getD a1.toNat 0 < 240) then some (Out.ret ((3, ()), ())) else bif decide (0 ≤ IntKind.i64.wrap (a1 + 3)) then bif !spIn a0 (IntKind.i64.wrap (a1 + 3)) 128 191 then some (Out.ret ((0, ()), ())) else some (Out.ret ((4, ()), ())) else none else none else none else bif decide (a0.getD a1.toNat 0 < 194) then some (Out.ret ((0, ()), ())) else bif decide (244 < a0.getD a1.toNat 0) then some (Out.ret ((0, ()), ())) else bif decide (0 ≤ IntKind.i64.wrap (a1 + 1)) then bif !spIn a0 (IntKind.i64.wrap (a1 + 1)) 128 191 then some (Out.ret ((0, ()), ())) else bif decide (a0.getD a1.toNat 0 < 224) then some (Out.ret ((2, ()), ())) else bif decide (0 ≤ IntKind.i64.wrap (a1 + 2)) then bif !spIn a0 (IntKind.i64.wrap (a1 + 2)) 128 191 then some (Out.ret ((0, ()), ())) else bif decide (a0.getD a1.toNat 0 < 240) then some (Out.ret ((3, ()), ())) else bif decide (0 ≤ IntKind.i64.wrap (a1 + 3)) then bif !spIn a0 (IntKind.i64.wrap (a1 + 3)) 128 191 then some (Out.ret ((0, ()), ())) else some (Out.ret ((4, ()), ())) else none else none else none else none
theorem runrChar (a0 : List Int) (a1 : Int) : Io.run tt hdrChar dr lprChar iorChar Go.Proofs.Try.f62 ((a0, a1, ()), ()) = bodyrChar a0 a1 := by kernel_rfl
theorem spIn_lt {b : List Int} {p lo hi : Int} (h : spIn b p lo hi = true) : p < (b.length : Int) := by
  simp only [spIn, Bool.and_eq_true, decide_eq_true_eq] at h
  exact h.1
noncomputable def chTail (b : List Int) (p c lo hi : Int) : Option iorChar.Res :=
  bif decide (c < 194) then some (Out.ret ((0, ()), ())) else bif decide (244 < c) then some (Out.ret ((0, ()), ())) else bif decide (0 ≤ p + 1) then bif !spIn b (p + 1) lo hi then some (Out.ret ((0, ()), ()))
    else bif decide (c < 224) then some (Out.ret ((2, ()), ())) else bif decide (0 ≤ IntKind.i64.wrap (p + 2)) then bif !spIn b (IntKind.i64.wrap (p + 2)) 128 191 then some (Out.ret ((0, ()), ()))
    else bif decide (c < 240) then some (Out.ret ((3, ()), ())) else bif decide (0 ≤ IntKind.i64.wrap (p + 3)) then bif !spIn b (IntKind.i64.wrap (p + 3)) 128 191 then some (Out.ret ((0, ()), ())) else some (Out.ret ((4, ()), ())) else none else none else none
theorem chTail_eq {b : List Int} {p c lo hi : Int} (hp : 0 ≤ p) (hb : (b.length : Int) ≤ 9223372036854775807) : chTail b p c lo hi = some (Out.ret ((if c < 194 ∨ 244 < c ∨ spIn b (p + 1) lo hi = false then 0 else if c < 224 then 2 else if spIn b (p + 2) 128 191 = false then 0 else if c < 240 then 3 else if spIn b (p + 3) 128 191 = false then 0 else 4, ()), ())) := by
  unfold chTail
  by_cases d2 : c < 194
  · simp [d2]
  by_cases d3 : 244 < c
  · simp [d2, d3]
  rw [bif_false (by simpa using d2), bif_false (by simpa using d3), bif_true (by simp; omega)]
  cases a1 : spIn b (p + 1) lo hi with
  | false => simp
  | true =>
    have h1 := spIn_lt a1
    have e2 : IntKind.i64.wrap (p + 2) = p + 2 := by rw [wrap_i64] <;> omega
    rw [e2]
    by_cases d4 : c < 224
    · simp [d2, d3, d4]
    rw [bif_false (by rfl), bif_false (by simpa using d4), bif_true (by simp; omega)]
    cases a2 : spIn b (p + 2) 128 191 with
    | false => simp [d2, d3, d4]
    | true =>
      have h2 := spIn_lt a2
      have e3 : IntKind.i64.wrap (p + 3) = p + 3 := by rw [wrap_i64] <;> omega
      rw [e3]
      by_cases d5 : c < 240
      · simp [d2, d3, d4, d5]
      rw [bif_false (by rfl), bif_false (by simpa using d5), bif_true (by simp; omega)]
      cases a3 : spIn b (p + 3) 128 191 <;> simp [d2, d3, d4, d5]
theorem okrChar : HcOk prog 62 (ioHd iorChar FrChar) := by
  refine fn_sound (n := 400) hm (cs := csrChar) (.cons okrwithin .nil) (lp := lprChar) (fn := Go.Proofs.Try.f62) (by kernel_rfl) (by kernel_rfl) (by kernel_rfl) iorChar (.done (by kernel_rfl)) FrChar ?_
  rintro ⟨⟨(b : List Int), (p : Int), ⟨⟩⟩, ⟨⟩⟩ out hw ho
  cases ho
  refine (runrChar b p).trans ?_
  have hb : b.length ≤ maxLen := hw.1.1.1
  rw [maxLen_eq] at hb
  unfold bodyrChar
  show _ = some (Out.ret ((spChar b p, ()), ()))
  unfold spChar
  by_cases h1 : p < 0
  · simp [h1]
  by_cases h2 : (b.length : Int) ≤ p
  · simp [h1, h2]
  have e1 : IntKind.i64.wrap (p + 1) = p + 1 := by rw [wrap_i64] <;> omega
  rw [e1]
  have h3 : 0 ≤ p := by omega
  have h4 : p < (b.length : Int) := by omega
  have h5 : (0 : Int) ≤ p + 1 := by omega
  have h6 : (0 : Int) ≤ p + 2 := by omega
  have h7 : (0 : Int) ≤ p + 3 := by omega
  generalize b.getD p.toNat 0 = c
  rw [bif_false (by simpa using h1), bif_false (by simpa using h2), bif_true (by simp; omega), if_neg (by omega)]
  by_cases d1 : c < 128
  · rw [bif_true (by simpa using d1), if_pos d1]
  rw [bif_false (by simpa using d1), if_neg d1]
  have tail : ∀ lo hi, spLoOf c = lo → spHiOf c = hi → chTail b p c lo hi = some (Out.ret ((if c < 194 ∨ 244 < c ∨ spIn b (p + 1) (spLoOf c) (spHiOf c) = false then 0 else if c < 224 then 2 else if spIn b (p + 2) 128 191 = false then 0 else if c < 240 then 3 else if spIn b (p + 3) 128 191 = false then 0 else 4, ()), ())) := by
    intro lo hi e1 e2
    rw [e1, e2]
    exact chTail_eq h3 (by omega)
  have no : ∀ x : Int, c ≠ x → (c == x) = false := fun x h => by simpa using h
  have ye : ∀ x : Int, c = x → (c == x) = true := fun x h => by simpa using h
  by_cases c1 : c = 224
  · rw [bif_true (ye _ c1), bif_false (no 237 (by omega)), bif_false (no 240 (by omega)), bif_false (no 244 (by omega))]
    exact tail 160 191 (by simp [spLoOf, c1]) (by simp [spHiOf, c1])
  rw [bif_false (no _ c1)]
  by_cases c2 : c = 237
  · rw [bif_true (ye _ c2), bif_false (no 240 (by omega)), bif_false (no 244 (by omega))]
    exact tail 128 159 (by simp [spLoOf, c2]) (by simp [spHiOf, c2])
  rw [bif_false (no _ c2)]
  by_cases c3 : c = 240
  · rw [bif_true (ye _ c3), bif_false (no 244 (by omega))]
    exact tail 144 191 (by simp [spLoOf, c3]) (by simp [spHiOf, c3])
  rw [bif_false (no _ c3)]
  by_cases c4 : c = 244
  · rw [bif_true (ye _ c4)]
    exact tail 128 143 (by simp [spLoOf, c4]) (by simp [spHiOf, c4])
  rw [bif_false (no _ c4)]
  exact tail 128 191 (by simp [spLoOf, c1, c3]) (by simp [spHiOf, c2, c4])

end
end Go.Proofs.Ytnppjkijhcampaa.Sym
