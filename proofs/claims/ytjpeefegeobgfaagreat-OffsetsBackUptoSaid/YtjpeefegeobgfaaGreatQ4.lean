/- leatref04: one character. -/
import Derived.Lib.SliceRun
import Derived.Test.YtjpeefegeobgfaaGreatQ3

namespace Go.Proofs.YtjpeefegeobgfaaGreat.Sym
open Go
set_option linter.unusedSimpArgs false
set_option linter.unusedVariables false
noncomputable section
def spLoOf (c : Int) : Int := if c = 240 then 144 else if c = 224 then 160 else 128
def spHiOf (c : Int) : Int := if c = 244 then 143 else if c = 237 then 159 else 191
def spChar (b : List Int) (p : Int) : Int :=
  if p < 0 ∨ (b.length : Int) ≤ p then 0
  else if b.getD p.toNat 0 < 128 then 1
  else if b.getD p.toNat 0 < 194 ∨ 244 < b.getD p.toNat 0 ∨ spIn b (p + 1) (spLoOf (b.getD p.toNat 0)) (spHiOf (b.getD p.toNat 0)) = false then 0
  else if b.getD p.toNat 0 < 224 then 2
  else if spIn b (p + 2) 128 191 = false then 0
  else if b.getD p.toNat 0 < 240 then 3
  else if spIn b (p + 3) 128 191 = false then 0
  else 4
abbrev iorChar : Io := ⟨[dL, dI], [], [], [dI], none⟩
def FrChar (d : iorChar.In) : Tr iorChar.Res := .ret (.ret ((spChar d.1.1 d.1.2.1, ()), ()))
abbrev csrChar : List (Nat × Hc) := [(205, ioHd iorwithin Frwithin)]
def hdrChar : Hd := hdT csrChar
def lprChar : Lp := lpT []
def bodyrChar (a0 : List Int) (a1 : Int) : Option iorChar.Res := bif decide (a1 < 0) then some (Out.ret ((0, ()), ())) else bif decide ((↑a0.length : Int) ≤ a1) then some (Out.ret ((0, ()), ())) else bif decide (0 ≤ a1) && decide (a1 < (↑a0.length : Int)) then bif decide (a0.getD a1.toNat 0 < 128) then some (Out.ret ((1, ()), ())) else bif a0.getD a1.toNat 0 == 224 then bif a0.getD a1.toNat 0 == 237 then bif a0.getD a1.toNat 0 == 240 then bif a0.getD a1.toNat 0 == 244 then bif decide (a0.getD a1.toNat 0 < 194) then some (Out.ret ((0, ()), ())) else bif decide (244 < a0.getD a1.toNat 0) then some (Out.ret ((0, ()), ())) else bif decide (0 ≤ IntKind.i64.wrap (a1 + 1)) then bif !spIn a0 (IntKind.i64.wrap (a1 + 1)) 144 143 then some (Out.ret ((0, ()), ())) else bif decide (a0.getD a1.toNat 0 < 224) then some (Out.ret ((2, ()), ())) else bif decide (0 ≤ IntKind.i64.wrap (a1 + 2)) then bif !spIn a0 (IntKind.i64.wrap (a1 + 2)) 128 191 then some (Out.ret ((0, ()), ())) else bif decide (a0.getD a1.toNat 0 < 240) then some (Out.ret ((3, ()), ())) else bif decide (0 ≤ IntKind.i64.wrap (a1 + 3)) then bif !spIn a0 (IntKind.i64.wrap (a1 + 3)) 128 191 then some (Out.ret ((0, ()), ())) else some (Out.ret ((4, ()), ())) else none else none else none else bif decide (a0.getD a1.toNat 0 < 194) then some (Out.ret ((0, ()), ())) else bif decide (244 < a0.getD a1.toNat 0) then some (Out.ret ((0, ()), ())) else bif decide (0 ≤ IntKind.i64.wrap (a1 + 1)) then bif !spIn a0 (IntKind.i64.wrap (a1 + 1)) 144 159 then some (Out.ret ((0, ()), ())) else bif decide (a0.getD a1.toNat 0 < 224) then some (Out.ret ((2, ()), ())) else bif decide (0 ≤ IntKind.i64.wrap (a1 + 2)) then bif !spIn a0 (IntKind.i64.wrap (a1 + 2)) 128 191 then some (Out.ret ((0, ()), ())) else bif decide (a0.getD a1.toNat 0 < 240) then some (Out.ret ((3, ()), ())) else bif decide (0 ≤ IntKind.i64.wrap (a1 + 3)) then bif !spIn a0 (IntKind.i64.wrap (a1 + 3)) 128 191 then some (Out.ret ((0, ()), ())) else some (Out.ret ((4, ()), ())) else none else none else none else bif a0.getD a1.toNat 0 == 244 then bif decide (a0.getD a1.toNat 0 < 194) then some (Out.ret ((0, ()), ())) else bif decide (244 < a0.getD a1.toNat 0) then some (Out.ret ((0, ()), ())) else bif decide (0 ≤ IntKind.i64.wrap (a1 + 1)) then bif !spIn a0 (IntKind.i64.wrap (a1 + 1)) 160 143 then some (Out.ret ((0, ()), ())) else bif decide (a0.getD a1.toNat 0 < 224) then some (Out.ret ((2, ()), ())) else bif decide (0 ≤ IntKind.i64.wrap (a1 + 2)) then bif !spIn a0 (IntKind.i64.wrap (a1 + 2)) 128 191 then some (Out.ret ((0, ()), ())) else bif decide (a0.getD a1.toNat 0 < 240) then some (Out.ret ((3, ()), ())) else bif decide (0 ≤ IntKind.i64.wrap (a1 + 3)) then bif !spIn a0 (IntKind.i64.wrap (a1 + 3)) 128 191 then some (Out.ret ((0, ()), ())) else some (Out.ret ((4, ()), ())) else none else none else none else bif decide (a0.getD a1.toNat 0 < 194) then some (Out.ret ((0, ()), ())) else bif decide (244 < a0.getD a1.toNat 0) then some (Out.ret ((0, ()), ())) else bif decide (0 ≤ IntKind.i64.wrap (a1 + 1)) then bif !spIn a0 (IntKind.i64.wrap (a1 + 1)) 160 159 then some (Out.ret ((0, ()), ())) else bif decide (a0.getD a1.toNat 0 < 224) then some (Out.ret ((2, ()), ())) else bif decide (0 ≤ IntKind.i64.wrap (a1 + 2)) then bif !spIn a0 (IntKind.i64.wrap (a1 + 2)) 128 191 then some (Out.ret ((0, ()), ())) else bif decide (a0.getD a1.toNat 0 < 240) then some (Out.ret ((3, ()), ())) else bif decide (0 ≤ IntKind.i64.wrap (a1 + 3)) then bif !spIn a0 (IntKind.i64.wrap (a1 + 3)) 128 191 then some (Out.ret ((0, ()), ())) else some (Out.ret ((4, ()), ())) else none else none else none else bif a0.getD a1.toNat 0 == 240 then bif a0.getD a1.toNat 0 == 244 then bif decide (a0.getD a1.toNat 0 < 194) then some (Out.ret ((0, ()), ())) else bif decide (244 < a0.getD a1.toNat 0) then some (Out.ret ((0, ()), ())) else bif decide (0 ≤ IntKind.i64.wrap (a1 + 1)) then bif !spIn a0 (IntKind.i64.wrap (a1 + 1)) 144 143 then some (Out.ret ((0, ()), ())) else bif decide (a0.getD a1.toNat 0 < 224) then some (Out.ret ((2, ()), ())) else bif decide (0 ≤ IntKind.i64.wrap (a1 + 2)) then bif !spIn a0 (IntKind.i64.wrap (a1 + 2)) 128 191 then some (Out.ret ((0, ()), ())) else bif decide (a0.getD a1.toNat 0 < 240) then some (Out.ret ((3, ()), ())) else bif decide (0 ≤ IntKind.i64.wrap (a1 + 3)) then bif !spIn a0 (IntKind.i64.wrap (a1 + 3)) 128 191 then some (Out.ret ((0, ()), ())) else some (Out.ret ((4, ()), ())) else none else none else none else bif decide (a0.getD a1.toNat 0 < 194) then some (Out.ret ((0, ()), ())) else bif decide (244 < a0.getD a1.toNat 0) then some (Out.ret ((0, ()), ())) else bif decide (0 ≤ IntKind.i64.wrap (a1 + 1)) then bif !spIn a0 (IntKind.i64.wrap (a1 + 1)) 144 191 then some (Out.ret ((0, ()), ())) else bif decide (a0.getD a1.toNat 0 < 224) then some (Out.ret ((2, ()), ())) else bif decide (0 ≤ IntKind.i64.wrap (a1 + 2)) then bif !spIn a0 (IntKind.i64.wrap (a1 + 2)) 128 191 then some (Out.ret ((0, ()), ())) else bif decide (a0.getD a1.toNat 0 < 240) then some (Out.ret ((3, ()), ())) else bif decide (0 ≤ IntKind.i64.wrap (a1 + 3)) then bif !spIn a0 (IntKind.i64.wrap (a1 + 3)) 128 191 then some (Out.ret ((0, ()), ())) else some (Out.ret ((4, ()), ())) else none else none else none else bif a0.getD a1.toNat 0 == 244 then bif decide (a0.getD a1.toNat 0 < 194) then some (Out.ret ((0, ()), ())) else bif decide (244 < a0.getD a1.toNat 0) then some (Out.ret ((0, ()), ())) else bif decide (0 ≤ IntKind.i64.wrap (a1 + 1)) then bif !spIn a0 (IntKind.i64.wrap (a1 + 1)) 160 143 then some (Out.ret ((0, ()), ())) else bif decide (a0.getD a1.toNat 0 < 224) then some (Out.ret ((2, ()), ())) else bif decide (0 ≤ IntKind.i64.wrap (a1 + 2)) then bif !spIn a0 (IntKind.i64.wrap (a1 + 2)) 128 191 then some (Out.ret ((0, ()), ())) else bif decide (a0.getD a1.toNat 0 < 240) then some (Out.ret ((3, ()), ())) else bif decide (0 ≤ IntKind.i64.wrap (a1 + 3)) then bif !spIn a0 (IntKind.i64.wrap (a1 + 3)) 128 191 then some (Out.ret ((0, ()), ())) else some (Out.ret ((4, ()), ())) else none else none else none else bif decide (a0.getD a1.toNat 0 < 194) then some (Out.ret ((0, ()), ())) else bif decide (244 < a0.getD a1.toNat 0) then some (Out.ret ((0, ()), ())) else bif decide (0 ≤ IntKind.i64.wrap (a1 + 1)) then bif !spIn a0 (IntKind.i64.wrap (a1 + 1)) 160 191 then some (Out.ret ((0, ()), ())) else bif decide (a0.getD a1.toNat 0 < 224) then some (Out.ret ((2, ()), ())) else bif decide (0 ≤ IntKind.i64.wrap (a1 + 2)) then bif !spIn a0 (IntKind.i64.wrap (a1 + 2)) 128 191 then some (Out.ret ((0, ()), ())) else bif decide (a0.getD a1.toNat 0 < 240) then some (Out.ret ((3, ()), ())) else bif decide (0 ≤ IntKind.i64.wrap (a1 + 3)) then bif !spIn a0 (IntKind.i64.wrap (a1 + 3)) 128 191 then some (Out.ret ((0, ()), ())) else some (Out.ret ((4, ()), ())) else none else none else none else bif a0.getD a1.toNat 0 == 237 then bif a0.getD a1.toNat 0 == 240 then bif a0.getD a1.toNat 0 == 244 then bif decide (a0.getD a1.toNat 0 < 194) then some (Out.ret ((0, ()), ())) else bif decide (244 < a0.getD a1.toNat 0) then some (Out.ret ((0, ()), ())) else bif decide (0 ≤ IntKind.i64.wrap (a1 + 1)) then bif !spIn a0 (IntKind.i64.wrap (a1 + 1)) 144 143 then some (Out.ret ((0, ()), ())) else bif decide (a0.getD a1.toNat 0 < 224) then some (Out.ret ((2, ()), ())) else bif decide (0 ≤ IntKind.i64.wrap (a1 + 2)) then bif !spIn a0 (IntKind.i64.wrap (a1 + 2)) 128 191 then some (Out.ret ((0, ()), ())) else bif decide (a0.getD a1.toNat 0 < 240) then some (Out.ret ((3, ()), ())) else bif decide (0 ≤ IntKind.i64.wrap (a1 + 3)) then bif !spIn a0 (IntKind.i64.wrap (a1 + 3)) 128 191 then some (Out.ret ((0, ()), ())) else some (Out.ret ((4, ()), ())) else none else none else none else bif decide (a0.getD a1.toNat 0 < 194) then some (Out.ret ((0, ()), ())) else bif decide (244 < a0.getD a1.toNat 0) then some (Out.ret ((0, ()), ())) else bif decide (0 ≤ IntKind.i64.wrap (a1 + 1)) then bif !spIn a0 (IntKind.i64.wrap (a1 + 1)) 144 159 then some (Out.ret ((0, ()), ())) else bif decide (a0.getD a1.toNat 0 < 224) then some (Out.ret ((2, ()), ())) else bif decide (0 ≤ IntKind.i64.wrap (a1 + 2)) then bif !spIn a0 (IntKind.i64.wrap (a1 + 2)) 128 191 then some (Out.ret ((0, ()), ())) else bif decide (a0.getD a1.toNat 0 < 240) then some (Out.ret ((3, ()), ())) else bif decide (0 ≤ IntKind.i64.wrap (a1 + 3)) then bif !spIn a0 (IntKind.i64.wrap (a1 + 3)) 128 191 then some (Out.ret ((0, ()), ())) else some (Out.ret ((4, ()), ())) else none else none else none else bif a0.getD a1.toNat 0 == 244 then bif decide (a0.getD a1.toNat 0 < 194) then some (Out.ret ((0, ()), ())) else bif decide (244 < a0.getD a1.toNat 0) then some (Out.ret ((0, ()), ())) else bif decide (0 ≤ IntKind.i64.wrap (a1 + 1)) then bif !spIn a0 (IntKind.i64.wrap (a1 + 1)) 128 143 then some (Out.ret ((0, ()), ())) else bif decide (a0.getD a1.toNat 0 < 224) then some (Out.ret ((2, ()), ())) else bif decide (0 ≤ IntKind.i64.wrap (a1 + 2)) then bif !spIn a0 (IntKind.i64.wrap (a1 + 2)) 128 191 then some (Out.ret ((0, ()), ())) else bif decide (a0.getD a1.toNat 0 < 240) then some (Out.ret ((3, ()), ())) else bif decide (0 ≤ IntKind.i64.wrap (a1 + 3)) then bif !spIn a0 (IntKind.i64.wrap (a1 + 3)) 128 191 then some (Out.ret ((0, ()), ())) else some (Out.ret ((4, ()), ())) else none else none else none else bif decide (a0.getD a1.toNat 0 < 194) then some (Out.ret ((0, ()), ())) else bif decide (244 < a0.getD a1.toNat 0) then some (Out.ret ((0, ()), ())) else bif decide (0 ≤ IntKind.i64.wrap (a1 + 1)) then bif !spIn a0 (IntKind.i64.wrap (a1 + 1)) 128 159 then some (Out.ret ((0, ()), ())) else bif decide (a0.getD a1.toNat 0 < 224) then some (Out.ret ((2, ()), ())) else bif decide (0 ≤ IntKind.i64.wrap (a1 + 2)) then bif !spIn a0 (IntKind.i64.wrap (a1 + 2)) 128 191 then some (Out.ret ((0, ()), ())) else bif decide (a0.getD a1.toNat 0 < 240) then some (Out.ret ((3, ()), ())) else bif decide (0 ≤ IntKind.i64.wrap (a1 + 3)) then bif !spIn a0 (IntKind.i64.wrap (a1 + 3)) 128 191 then some (Out.ret ((0, ()), ())) else some (Out.ret ((4, ()), ())) else none else none else none else bif a0.getD a1.toNat 0 == 240 then bif a0.getD a1.toNat 0 == 244 then bif decide (a0.getD a1.toNat 0 < 194) then some (Out.ret ((0, ()), ())) else bif decide (244 < a0.getD a1.toNat 0) then some (Out.ret ((0, ()), ())) else bif decide (0 ≤ IntKind.i64.wrap (a1 + 1)) then bif !spIn a0 (IntKind.i64.wrap (a1 + 1)) 144 143 then some (Out.ret ((0, ()), ())) else bif decide (a0.getD a1.toNat 0 < 224) then some (Out.ret ((2, ()), ())) else bif decide (0 ≤ IntKind.i64.wrap (a1 + 2)) then bif !spIn a0 (IntKind.i64.wrap (a1 + 2)) 128 191 then some (Out.ret ((0, ()), ())) else bif decide (a0.getD a1.toNat 0 < 240) then some (Out.ret ((3, ()), ())) else bif decide (0 ≤ IntKind.i64.wrap (a1 + 3)) then bif !spIn a0 (IntKind.i64.wrap (a1 + 3)) 128 191 then some (Out.ret ((0, ()), ())) else some (Out.ret ((4, ()), ())) else none else none else none else bif decide (a0.getD a1.toNat 0 < 194) then some (Out.ret ((0, ()), ())) else bif decide (244 < a0.getD a1.toNat 0) then some (Out.ret ((0, ()), ())) else bif decide (0 ≤ IntKind.i64.wrap (a1 + 1)) then bif !spIn a0 (IntKind.i64.wrap (a1 + 1)) 144 191 then some (Out.ret ((0, ()), ())) else bif decide (a0.getD a1.toNat 0 < 224) then some (Out.ret ((2, ()), ())) else bif decide (0 ≤ IntKind.i64.wrap (a1 + 2)) then bif !spIn a0 (IntKind.i64.wrap (a1 + 2)) 128 191 then some (Out.ret ((0, ()), ())) else bif decide (a0.getD a1.toNat 0 < 240) then some (Out.ret ((3, ()), ())) else bif decide (0 ≤ IntKind.i64.wrap (a1 + 3)) then bif !spIn a0 (IntKind.i64.wrap (a1 + 3)) 128 191 then some (Out.ret ((0, ()), ())) else some (Out.ret ((4, ()), ())) else none else none else none else bif a0.getD a1.toNat 0 == 244 then bif decide (a0.getD a1.toNat 0 < 194) then some (Out.ret ((0, ()), ())) else bif decide (244 < a0.getD a1.toNat 0) then some (Out.ret ((0, ()), ())) else bif decide (0 ≤ IntKind.i64.wrap (a1 + 1)) then bif !spIn a0 (IntKind.i64.wrap (a1 + 1)) 128 143 then some (Out.ret ((0, ()), ())) else bif decide (a0.getD a1.toNat 0 < 224) then some (Out.ret ((2, ()), ())) else bif decide (0 ≤ IntKind.i64.wrap (a1 + 2)) then bif !spIn a0 (IntKind.i64.wrap (a1 + 2)) 128 191 then some (Out.ret ((0, ()), ())) else bif decide (a0.getD a1.toNat 0 < 240) then some (Out.ret ((3, ()), ())) else bif decide (0 ≤ IntKind.i64.wrap (a1 + 3)) then bif !spIn a0 (IntKind.i64.wrap (a1 + 3)) 128 191 then some (Out.ret ((0, ()), ())) else some (Out.ret ((4, ()), ())) else none else none else none else bif decide (a0.getD a1.toNat 0 < 194) then some (Out.ret ((0, ()), ())) else bif decide (244 < a0.getD a1.toNat 0) then some (Out.ret ((0, ()), ())) else bif decide (0 ≤ IntKind.i64.wrap (a1 + 1)) then bif !spIn a0 (IntKind.i64.wrap (a1 + 1)) 128 191 then some (Out.ret ((0, ()), ())) else bif decide (a0.getD a1.toNat 0 < 224) then some (Out.ret ((2, ()), ())) else bif decide (0 ≤ IntKind.i64.wrap (a1 + 2)) then bif !spIn a0 (IntKind.i64.wrap (a1 + 2)) 128 191 then some (Out.ret ((0, ()), ())) else bif decide (a0.getD a1.toNat 0 < 240) then some (Out.ret ((3, ()), ())) else bif decide (0 ≤ IntKind.i64.wrap (a1 + 3)) then bif !spIn a0 (IntKind.i64.wrap (a1 + 3)) 128 191 then some (Out.ret ((0, ()), ())) else some (Out.ret ((4, ()), ())) else none else none else none else none
theorem runrChar (a0 : List Int) (a1 : Int) : Io.run tt hdrChar dr lprChar iorChar Go.Proofs.Tryz.f204 ((a0, a1, ()), ()) = bodyrChar a0 a1 := by kernel_rfl
theorem spIn_lt {b : List Int} {p lo hi : Int} (h : spIn b p lo hi = true) : p < (b.length : Int) := by
  simp only [spIn, Bool.and_eq_true, decide_eq_true_eq] at h
  exact h.1
def chTail (b : List Int) (p c lo hi : Int) : Option iorChar.Res :=
  bif decide (c < 194) then some (Out.ret ((0, ()), ())) else bif decide (244 < c) then some (Out.ret ((0, ()), ())) else bif decide (0 ≤ p + 1) then bif !spIn b (p + 1) lo hi then some (Out.ret ((0, ()), ()))
    else bif decide (c < 224) then some (Out.ret ((2, ()), ())) else bif decide (0 ≤ IntKind.i64.wrap (p + 2)) then bif !spIn b (IntKind.i64.wrap (p + 2)) 128 191 then some (Out.ret ((0, ()), ()))
    else bif decide (c < 240) then some (Out.ret ((3, ()), ())) else bif decide (0 ≤ IntKind.i64.wrap (p + 3)) then bif !spIn b (IntKind.i64.wrap (p + 3)) 128 191 then some (Out.ret ((0, ()), ())) else some (Out.ret ((4, ()), ())) else none else none else none
theorem chTail_eq {b : List Int} {p c lo hi : Int} (hp : 0 ≤ p) (hb : (b.length : Int) ≤ 9223372036854775807) : chTail b p c lo hi = some (Out.ret ((if c < 194 ∨ 244 < c ∨ spIn b (p + 1) lo hi = false then 0 else if c < 224 then 2 else if spIn b (p + 2) 128 191 = false then 0 else if c < 240 then 3 else if spIn b (p + 3) 128 191 = false then 0 else 4, ()), ())) := by
  unfold chTail
  by_cases d2 : c < 194
  · simp [d2]
  by_cases d3 : 244 < c
  · simp [d2, d3]
  rw [bif_false (by simpa using d2), bif_false (by simpa using d3), bif_true (by simp; omega)]
  cases a1 : spIn b (p + 1) lo hi with
  | false => simp
  | true =>
    have h1 := spIn_lt a1
    have e2 : IntKind.i64.wrap (p + 2) = p + 2 := by rw [wrap_i64] <;> omega
    rw [e2]
    by_cases d4 : c < 224
    · simp [d2, d3, d4]
    rw [bif_false (by rfl), bif_false (by simpa using d4), bif_true (by simp; omega)]
    cases a2 : spIn b (p + 2) 128 191 with
    | false => simp [d2, d3, d4]
    | true =>
      have h2 := spIn_lt a2
      have e3 : IntKind.i64.wrap (p + 3) = p + 3 := by rw [wrap_i64] <;> omega
      rw [e3]
      by_cases d5 : c < 240
      · simp [d2, d3, d4, d5]
      rw [bif_false (by rfl), bif_false (by simpa using d5), bif_true (by simp; omega)]
      cases a3 : spIn b (p + 3) 128 191 <;> simp [d2, d3, d4, d5]
theorem okrChar : HcOk prog 204 (ioHd iorChar FrChar) := by
  refine fn_sound (n := 400) hm (cs := csrChar) (.cons okrwithin .nil) (lp := lprChar) (fn := Go.Proofs.Tryz.f204) (by kernel_rfl) (by kernel_rfl) (by kernel_rfl) iorChar (.done (by kernel_rfl)) FrChar ?_
  rintro ⟨⟨(b : List Int), (p : Int), ⟨⟩⟩, ⟨⟩⟩ out hw ho
  cases ho
  refine (runrChar b p).trans ?_
  have hb : b.length ≤ maxLen := hw.1.1.1
  rw [maxLen_eq] at hb
  unfold bodyrChar
  show _ = some (Out.ret ((spChar b p, ()), ()))
  unfold spChar
  by_cases h1 : p < 0
  · simp [h1]
  by_cases h2 : (b.length : Int) ≤ p
  · simp [h1, h2]
  have e1 : IntKind.i64.wrap (p + 1) = p + 1 := by rw [wrap_i64] <;> omega
  rw [e1]
  have h3 : 0 ≤ p := by omega
  have h4 : p < (b.length : Int) := by omega
  have h5 : (0 : Int) ≤ p + 1 := by omega
  have h6 : (0 : Int) ≤ p + 2 := by omega
  have h7 : (0 : Int) ≤ p + 3 := by omega
  generalize b.getD p.toNat 0 = c
  rw [bif_false (by simpa using h1), bif_false (by simpa using h2), bif_true (by simp; omega), if_neg (by omega)]
  by_cases d1 : c < 128
  · rw [bif_true (by simpa using d1), if_pos d1]
  rw [bif_false (by simpa using d1), if_neg d1]
  have tail : ∀ lo hi, spLoOf c = lo → spHiOf c = hi → chTail b p c lo hi = some (Out.ret ((if c < 194 ∨ 244 < c ∨ spIn b (p + 1) (spLoOf c) (spHiOf c) = false then 0 else if c < 224 then 2 else if spIn b (p + 2) 128 191 = false then 0 else if c < 240 then 3 else if spIn b (p + 3) 128 191 = false then 0 else 4, ()), ())) := by
    intro lo hi e1 e2
    rw [e1, e2]
    exact chTail_eq h3 (by omega)
  have no : ∀ x : Int, c ≠ x → (c == x) = false := fun x h => by simpa using h
  have ye : ∀ x : Int, c = x → (c == x) = true := fun x h => by simpa using h
  by_cases c1 : c = 224
  · rw [bif_true (ye _ c1), bif_false (no 237 (by omega)), bif_false (no 240 (by omega)), bif_false (no 244 (by omega))]
    exact tail 160 191 (by simp [spLoOf, c1]) (by simp [spHiOf, c1])
  rw [bif_false (no _ c1)]
  by_cases c2 : c = 237
  · rw [bif_true (ye _ c2), bif_false (no 240 (by omega)), bif_false (no 244 (by omega))]
    exact tail 128 159 (by simp [spLoOf, c2]) (by simp [spHiOf, c2])
  rw [bif_false (no _ c2)]
  by_cases c3 : c = 240
  · rw [bif_true (ye _ c3), bif_false (no 244 (by omega))]
    exact tail 144 191 (by simp [spLoOf, c3]) (by simp [spHiOf, c3])
  rw [bif_false (no _ c3)]
  by_cases c4 : c = 244
  · rw [bif_true (ye _ c4)]
    exact tail 128 143 (by simp [spLoOf, c4]) (by simp [spHiOf, c4])
  rw [bif_false (no _ c4)]
  exact tail 128 191 (by simp [spLoOf, c1, c3]) (by simp [spHiOf, c2, c4])
end
end Go.Proofs.YtjpeefegeobgfaaGreat.Sym
namespace Go.Proofs.YtjpeefegeobgfaaGreat.Sym
open Go
set_option linter.unusedSimpArgs false
set_option linter.unusedVariables false
noncomputable section
def spUtfN (b : List Int) : Nat → Int → Int × Bool
  | 0, p => (p, true)
  | n + 1, p => if (b.length : Int) ≤ p then (p, true) else if spChar b p = 0 then (p, false) else spUtfN b n (p + spChar b p)
def spUtf (b : List Int) : Int × Bool := spUtfN b (b.length + 1) 0
theorem spChar_le {b : List Int} {p : Int} (h0 : 0 ≤ p) (h : p < (b.length : Int)) : 0 ≤ spChar b p ∧ p + spChar b p ≤ b.length := by
  unfold spChar
  rw [if_neg (by omega)]
  split
  · omega
  split
  · omega
  rename_i h1
  have a1 : spIn b (p + 1) (spLoOf (b.getD p.toNat 0)) (spHiOf (b.getD p.toNat 0)) = true := by
    cases hx : spIn b (p + 1) (spLoOf (b.getD p.toNat 0)) (spHiOf (b.getD p.toNat 0)) with
    | true => rfl
    | false => exact absurd (.inr (.inr hx)) h1
  have h2 := spIn_lt a1
  split
  · omega
  split
  · omega
  rename_i h3
  have h4 := spIn_lt (show spIn b (p + 2) 128 191 = true by simpa using h3)
  split
  · omega
  split
  · omega
  rename_i h5
  have h6 := spIn_lt (show spIn b (p + 3) 128 191 = true by simpa using h5)
  omega
abbrev iorUtf : Io := ⟨[dL], [], [], [dI, dB], none⟩
def FrUtf (d : iorUtf.In) : Tr iorUtf.Res := .ret (.ret (((spUtf d.1.1).1, (spUtf d.1.1).2, ()), ()))
abbrev csrUtf : List (Nat × Hc) := [(204, ioHd iorChar FrChar)]
def hdrUtf : Hd := hdT csrUtf
abbrev lorUtf_3 : Lo := ⟨⟨[.one (.hol (.sl 5 (Ty.int IntKind.u8))), .any, .any, .any, .one (.hol (.int IntKind.i64)), .any, .any, .any, .any, .any, .any, .any, .any, .any, .any, .any, .any, .any, .any, .any], []⟩, [(.ret, ⟨[.any, .any, .one (.hol (.int IntKind.i64)), .one (.hol .bool), .any, .any, .any, .any, .any, .any, .any, .any, .any, .any, .any, .any, .any, .any, .any, .any], []⟩), (.exit 0, ⟨[.any, .any, .any, .any, .one (.hol (.int IntKind.i64)), .any, .any, .any, .any, .any, .any, .any, .any, .any, .any, .any, .any, .any, .any, .any], []⟩)]⟩
-- FrUtf_3 : lorUtf_3.st.den → Tr (DenX lorUtf_3.xs) | ((h1, (h2, ())), ())
def FrUtf_3 (d : lorUtf_3.st.den) : Tr (DenX lorUtf_3.xs) :=
  .ite (decide (d.1.2.1 = (0 : Int))) (.ite (spUtf d.1.1).2 (.ret (.pan (.ret ((), (((spUtf d.1.1).1, ()), ()))))) (.ret (.ret ((), (((spUtf d.1.1).1, (false, ())), ()))))) .no
def lprUtf : Lp := lpT [(3, loHd lorUtf_3 FrUtf_3)]
def steprUtf_3 {R : Type} (h1 : List Int) (h2 : Int) (next : List Int → Int → Option R) (out : DenX lorUtf_3.xs → Option R) : Option R := bif decide (h2 < (↑h1.length : Int)) then bif spChar h1 h2 == 0 then out (.ret ((), ((h2, (false, ())), ()))) else next (h1) (IntKind.i64.wrap (h2 + spChar h1 h2)) else out (.pan (.ret ((), ((h2, ()), ()))))
def itrUtf_3 (n : Nat) (h1 : List Int) (h2 : Int) : Option (DenX lorUtf_3.xs) := lpN tt hdrUtf dr lprUtf 0 Go.Proofs.Tryz.f200 (topL Go.Proofs.Tryz.f200 0) n (lorUtf_3.st.mk' ((h1, (h2, ())), ())) (decX lorUtf_3.xs)
theorem slrUtf_3 (n : Nat) (h1 : List Int) (h2 : Int) : itrUtf_3 (n + 1) h1 h2 = steprUtf_3 h1 h2 (itrUtf_3 n) some := by kernel_rfl
theorem looprUtf (b : List Int) (hb : (b.length : Int) ≤ 9223372036854775807) : ∀ (k : Nat) (p : Int), 0 ≤ p → p ≤ b.length → (b.length : Int) < p + k →
    itrUtf_3 k b p = if (spUtfN b k p).2 = true then some (.pan (.ret ((), (((spUtfN b k p).1, ()), ())))) else some (.ret ((), (((spUtfN b k p).1, (false, ())), ()))) := by
  intro k
  induction k with
  | zero => intro p h0 h1 h2; omega
  | succ k ih =>
    intro p h0 h1 h2
    rw [slrUtf_3]
    unfold steprUtf_3
    by_cases h3 : (b.length : Int) ≤ p
    · have h4 : ¬ p < (b.length : Int) := by omega
      have hS : spUtfN b (k + 1) p = (p, true) := by simp [spUtfN, h3]
      simp [hS, h4]
    · have h4 : p < (b.length : Int) := by omega
      obtain ⟨h5, h6⟩ := spChar_le h0 h4
      rw [bif_true (by simpa using h4)]
      by_cases h7 : spChar b p = 0
      · have hS : spUtfN b (k + 1) p = (p, false) := by simp [spUtfN, h3, h7]
        simp [hS, h7]
      · have hS : spUtfN b (k + 1) p = spUtfN b k (p + spChar b p) := by simp [spUtfN, h3, h7]
        simp only [hS]
        rw [bif_false (by simpa using h7), wrap_i64 (by omega) (by omega), ih _ (by omega) h6 (by omega)]
def bodyrUtf (a0 : List Int) : Option iorUtf.Res := (FrUtf_3 ((a0, (0, ())), ())).run fun y => match y with | .ret ((), ((x8, x9, ()), ())) => (some (Out.ret ((x8, x9, ()), ()))) | .pan (.ret ((), ((x10, ()), ()))) => (some (Out.ret ((x10, true, ()), ())))
theorem runrUtf (a0 : List Int) : Io.run tt hdrUtf dr lprUtf iorUtf Go.Proofs.Tryz.f200 ((a0, ()), ()) = bodyrUtf a0 := by kernel_rfl
theorem okrUtf : HcOk prog 200 (ioHd iorUtf FrUtf) := by
  refine fn_sound (n := 400) hm (cs := csrUtf) (.cons okrChar .nil) (lp := lprUtf) (fn := Go.Proofs.Tryz.f200) (by kernel_rfl) (by kernel_rfl) (by kernel_rfl) iorUtf
    (.step (h0 := loHd lorUtf_3 FrUtf_3) (by kernel_rfl) (loop_sound (n := 400) hm (cs := csrUtf) (.cons okrChar .nil) (lp := lprUtf) (fn := Go.Proofs.Tryz.f200) (.done (by kernel_rfl)) lorUtf_3 FrUtf_3 ?_) (.done (by kernel_rfl))) FrUtf ?_
  · rintro ⟨⟨(b : List Int), (p : Int), ⟨⟩⟩, ⟨⟩⟩ y hw hy
    obtain ⟨hg, hy⟩ := Tr.guard hy
    have hg : p = 0 := by simpa using hg
    subst hg
    have hb : b.length ≤ maxLen := hw.1.1.1
    rw [maxLen_eq] at hb
    refine ⟨b.length + 1, (looprUtf b (by omega) (b.length + 1) 0 (by omega) (by omega) (by omega)).trans ?_⟩
    rw [← hy]
    simp only [Tr.val_ite, Tr.val_ret]
    rfl
  · rintro ⟨⟨(b : List Int), ⟨⟩⟩, ⟨⟩⟩ out hw ho
    cases ho
    refine (runrUtf b).trans ?_
    unfold bodyrUtf FrUtf_3
    show _ = some (Out.ret (((spUtf b).1, (spUtf b).2, ()), ()))
    simp only [Tr.run_ite, Tr.run_ret]
    generalize spUtf b = r
    obtain ⟨r1, r2⟩ := r
    cases r2 <;> simp
end
end Go.Proofs.YtjpeefegeobgfaaGreat.Sym
namespace Go.Proofs.YtjpeefegeobgfaaGreat.Sym
open Go
set_option linter.unusedSimpArgs false
set_option linter.unusedVariables false
noncomputable section
abbrev dS : Sh := .dat .str false false
def spPre (s p : List Int) : Bool := decide (s.take p.length = p)
theorem mkStr_get {s : List Int} (hs : byteR s) (k : Nat) : ((mkStr s).get! k).toNat = (s.getD k 0).toNat := by
  by_cases h : k < s.length
  · have h1 : (mkStr s).get! k = UInt8.ofNat (s[k]).toNat := by
      have : k < (mkStr s).data.size := by simp [mkStr, h]
      have e : (mkStr s).get! k = (mkStr s).data[k] := getElem!_pos (mkStr s).data k this
      rw [e]
      simp [mkStr]
    rw [h1, getD_lt h]
    have := hs s[k] (List.getElem_mem h)
    rw [UInt8.toNat_ofNat', Nat.mod_eq_of_lt (by omega)]
  · have h1 : (mkStr s).get! k = 0 := by
      have : ¬ k < (mkStr s).data.size := by simp [mkStr]; omega
      have e : (mkStr s).get! k = default := getElem!_neg (mkStr s).data k this
      rw [e]
      rfl
    rw [h1, List.getD_eq_getElem?_getD, List.getElem?_eq_none (by omega)]
    rfl
def chN (r1 r2 r3 : Prop) [Decidable r1] [Decidable r2] [Decidable r3] (x0 x1 x2 x3 : Nat) : Nat :=
  if x0 < 128 then 1
  else if x0 < 194 ∨ 244 < x0 ∨ ¬ (r1 ∧ (if x0 = 240 then 144 else if x0 = 224 then 160 else 128) ≤ x1 ∧ x1 ≤ (if x0 = 244 then 143 else if x0 = 237 then 159 else 191)) then 0
  else if x0 < 224 then 2
  else if ¬ (r2 ∧ 128 ≤ x2 ∧ x2 ≤ 191) then 0
  else if x0 < 240 then 3
  else if ¬ (r3 ∧ 128 ≤ x3 ∧ x3 ≤ 191) then 0 else 4
theorem spChar_N {b : List Int} (hs : byteR b) {n : Nat} (h : n < b.length) : spChar b n = (chN (n + 1 < b.length) (n + 2 < b.length) (n + 3 < b.length) (b.getD n 0).toNat (b.getD (n + 1) 0).toNat (b.getD (n + 2) 0).toNat (b.getD (n + 3) 0).toNat : Int) := by
  have hr : ∀ k, 0 ≤ b.getD k 0 ∧ b.getD k 0 < 256 := fun k => by
    by_cases hk : k < b.length
    · rw [getD_lt hk]; exact hs _ (List.getElem_mem hk)
    · rw [List.getD_eq_getElem?_getD, List.getElem?_eq_none (by omega)]; simp
  unfold spChar chN spIn spLoOf spHiOf
  have e1 : ((n : Int) + 1).toNat = n + 1 := by omega
  have e2 : ((n : Int) + 2).toNat = n + 2 := by omega
  have e3 : ((n : Int) + 3).toNat = n + 3 := by omega
  rw [e1, e2, e3, Int.toNat_natCast]
  have h0 := hr n
  have h1 := hr (n + 1)
  have h2 := hr (n + 2)
  have h3 := hr (n + 3)
  generalize b.getD n 0 = y0 at *
  generalize b.getD (n + 1) 0 = y1 at *
  generalize b.getD (n + 2) 0 = y2 at *
  generalize b.getD (n + 3) 0 = y3 at *
  obtain ⟨x0, rfl⟩ := toNat_of h0.1
  obtain ⟨x1, rfl⟩ := toNat_of h1.1
  obtain ⟨x2, rfl⟩ := toNat_of h2.1
  obtain ⟨x3, rfl⟩ := toNat_of h3.1
  generalize b.length = L at *
  rw [if_neg (by omega)]
  simp only [Bool.and_eq_false_iff, decide_eq_false_iff_not, Int.toNat_natCast]
  by_cases a0 : x0 < 128
  · rw [if_pos (by omega), if_pos a0]; rfl
  rw [if_neg (by omega), if_neg a0]
  have hi : (if (x0 : Int) = 240 then (144 : Int) else if (x0 : Int) = 224 then 160 else 128) = ((if x0 = 240 then 144 else if x0 = 224 then 160 else 128 : Nat) : Int) := by
    repeat' split
    all_goals omega
  have hj : (if (x0 : Int) = 244 then (143 : Int) else if (x0 : Int) = 237 then 159 else 191) = ((if x0 = 244 then 143 else if x0 = 237 then 159 else 191 : Nat) : Int) := by
    repeat' split
    all_goals omega
  rw [hi, hj]
  generalize (if x0 = 240 then 144 else if x0 = 224 then 160 else 128 : Nat) = lo
  generalize (if x0 = 244 then 143 else if x0 = 237 then 159 else 191 : Nat) = hi
  by_cases a1 : x0 < 194 ∨ 244 < x0 ∨ ¬ (n + 1 < L ∧ lo ≤ x1 ∧ x1 ≤ hi)
  · rw [if_pos a1, if_pos (by omega)]; rfl
  rw [if_neg a1, if_neg (by omega)]
  by_cases a2 : x0 < 224
  · rw [if_pos a2, if_pos (by omega)]; rfl
  rw [if_neg a2, if_neg (by omega)]
  by_cases a3 : ¬ (n + 2 < L ∧ 128 ≤ x2 ∧ x2 ≤ 191)
  · rw [if_pos a3, if_pos (by omega)]; rfl
  rw [if_neg a3, if_neg (by omega)]
  by_cases a4 : x0 < 240
  · rw [if_pos a4, if_pos (by omega)]; rfl
  rw [if_neg a4, if_neg (by omega)]
  by_cases a5 : ¬ (n + 3 < L ∧ 128 ≤ x3 ∧ x3 ≤ 191)
  · rw [if_pos a5, if_pos (by omega)]; rfl
  rw [if_neg a5, if_neg (by omega)]; rfl
def ruN (r1 r2 r3 : Prop) [Decidable r1] [Decidable r2] [Decidable r3] (x0 x1 x2 x3 : Nat) : Nat × Nat :=
  if x0 < 128 then (x0, 1)
  else if x0 / 32 = 6 ∧ (r1 ∧ x1 / 64 = 2) then (if 128 ≤ (x0 % 32) * 64 + x1 % 64 then ((x0 % 32) * 64 + x1 % 64, 2) else (65533, 1))
  else if (x0 / 16 = 14 ∧ (r1 ∧ x1 / 64 = 2)) ∧ (r2 ∧ x2 / 64 = 2) then
    (if 2048 ≤ (x0 % 16) * 4096 + (x1 % 64) * 64 + x2 % 64 ∧ ((x0 % 16) * 4096 + (x1 % 64) * 64 + x2 % 64 < 55296 ∨ 57344 ≤ (x0 % 16) * 4096 + (x1 % 64) * 64 + x2 % 64) then ((x0 % 16) * 4096 + (x1 % 64) * 64 + x2 % 64, 3) else (65533, 1))
  else if ((x0 / 8 = 30 ∧ (r1 ∧ x1 / 64 = 2)) ∧ (r2 ∧ x2 / 64 = 2)) ∧ (r3 ∧ x3 / 64 = 2) then
    (if 65536 ≤ (x0 % 8) * 262144 + (x1 % 64) * 4096 + (x2 % 64) * 64 + x3 % 64 ∧ (x0 % 8) * 262144 + (x1 % 64) * 4096 + (x2 % 64) * 64 + x3 % 64 ≤ 1114111 then ((x0 % 8) * 262144 + (x1 % 64) * 4096 + (x2 % 64) * 64 + x3 % 64, 4) else (65533, 1))
  else (65533, 1)
theorem valid3 {c : Nat} (h : c < 65536) : Utf8.valid (c : Int) = true ↔ (c < 55296 ∨ 57344 ≤ c) := by
  simp only [Utf8.valid, Bool.or_eq_true, Bool.and_eq_true, decide_eq_true_eq]; omega
theorem valid4 {c : Nat} (h : 65536 ≤ c) : Utf8.valid (c : Int) = true ↔ c ≤ 1114111 := by
  simp only [Utf8.valid, Bool.or_eq_true, Bool.and_eq_true, decide_eq_true_eq]; omega
theorem decode_N {b : List Int} (hs : byteR b) (n : Nat) : Utf8.decode (mkStr b) n = ruN (n + 1 < b.length) (n + 2 < b.length) (n + 3 < b.length) (b.getD n 0).toNat (b.getD (n + 1) 0).toNat (b.getD (n + 2) 0).toNat (b.getD (n + 3) 0).toNat := by
  unfold Utf8.decode ruN Utf8.runeError
  simp only [mkStr_get hs, mkStr_size, Nat.add_zero]
  generalize (b.getD n 0).toNat = x0
  generalize (b.getD (n + 1) 0).toNat = x1
  generalize (b.getD (n + 2) 0).toNat = x2
  generalize (b.getD (n + 3) 0).toNat = x3
  simp only [Bool.and_eq_true, decide_eq_true_eq, beq_iff_eq, ge_iff_le]
  congr 1
  congr 1
  congr 1
  · congr 1
    apply propext
    constructor
    · rintro ⟨h1, h2⟩; exact ⟨h1, (valid3 (by omega)).1 h2⟩
    · rintro ⟨h1, h2⟩; exact ⟨h1, (valid3 (by omega)).2 h2⟩
  · congr 1
    congr 1
    apply propext
    constructor
    · rintro ⟨h1, h2⟩; exact ⟨h1, (valid4 h1).1 h2⟩
    · rintro ⟨h1, h2⟩; exact ⟨h1, (valid4 h1).2 h2⟩
theorem ru2 {x0 x1 : Nat} (h0 : x0 < 256) (h1 : x1 < 256) : (x0 / 32 = 6 ∧ x1 / 64 = 2) ∧ 128 ≤ (x0 % 32) * 64 + x1 % 64 ↔ 194 ≤ x0 ∧ x0 < 224 ∧ 128 ≤ x1 ∧ x1 ≤ 191 := by omega
theorem ru3 {x0 x1 x2 : Nat} (h0 : x0 < 256) (h1 : x1 < 256) (h2 : x2 < 256) : ((x0 / 16 = 14 ∧ x1 / 64 = 2) ∧ x2 / 64 = 2) ∧ (2048 ≤ (x0 % 16) * 4096 + (x1 % 64) * 64 + x2 % 64 ∧ ((x0 % 16) * 4096 + (x1 % 64) * 64 + x2 % 64 < 55296 ∨ 57344 ≤ (x0 % 16) * 4096 + (x1 % 64) * 64 + x2 % 64)) ↔
    224 ≤ x0 ∧ x0 < 240 ∧ ((if x0 = 224 then 160 else 128) ≤ x1 ∧ x1 ≤ (if x0 = 237 then 159 else 191)) ∧ 128 ≤ x2 ∧ x2 ≤ 191 := by
  constructor
  · rintro ⟨⟨⟨h3, h4⟩, h5⟩, h6⟩
    refine ⟨by omega, by omega, ⟨?_, ?_⟩, by omega, by omega⟩
    · split <;> omega
    · split <;> omega
  · rintro ⟨h3, h4, ⟨h5, h6⟩, h7, h8⟩
    split at h5 <;> split at h6 <;> omega
theorem ru4 {x0 x1 x2 x3 : Nat} (h0 : x0 < 256) (h1 : x1 < 256) (h2 : x2 < 256) (h3 : x3 < 256) : (((x0 / 8 = 30 ∧ x1 / 64 = 2) ∧ x2 / 64 = 2) ∧ x3 / 64 = 2) ∧ (65536 ≤ (x0 % 8) * 262144 + (x1 % 64) * 4096 + (x2 % 64) * 64 + x3 % 64 ∧ (x0 % 8) * 262144 + (x1 % 64) * 4096 + (x2 % 64) * 64 + x3 % 64 ≤ 1114111) ↔
    240 ≤ x0 ∧ x0 ≤ 244 ∧ ((if x0 = 240 then 144 else 128) ≤ x1 ∧ x1 ≤ (if x0 = 244 then 143 else 191)) ∧ (128 ≤ x2 ∧ x2 ≤ 191) ∧ (128 ≤ x3 ∧ x3 ≤ 191) := by
  constructor
  · rintro ⟨⟨⟨⟨h3, h4⟩, h5⟩, h6⟩, h7⟩
    refine ⟨by omega, by omega, ⟨?_, ?_⟩, ⟨by omega, by omega⟩, by omega, by omega⟩
    · split <;> omega
    · split <;> omega
  · rintro ⟨h3, h4, ⟨h5, h6⟩, ⟨h7, h8⟩, h9, h10⟩
    split at h5 <;> split at h6 <;> omega
theorem ch_ru (r1 r2 r3 : Prop) [Decidable r1] [Decidable r2] [Decidable r3] (x0 x1 x2 x3 : Nat) (h0 : x0 < 256) (h1 : x1 < 256) (h2 : x2 < 256) (h3 : x3 < 256) :
    (chN r1 r2 r3 x0 x1 x2 x3 = 0 ∧ ruN r1 r2 r3 x0 x1 x2 x3 = (65533, 1) ∧ ¬ (r1 ∧ r2 ∧ x0 = 239 ∧ x1 = 191 ∧ x2 = 189)) ∨
    (0 < chN r1 r2 r3 x0 x1 x2 x3 ∧ (ruN r1 r2 r3 x0 x1 x2 x3).2 = chN r1 r2 r3 x0 x1 x2 x3 ∧ ((ruN r1 r2 r3 x0 x1 x2 x3).1 = 65533 → (r1 ∧ r2 ∧ x0 = 239 ∧ x1 = 191 ∧ x2 = 189))) := by
  by_cases a0 : x0 < 128
  · right
    unfold chN ruN
    rw [if_pos a0, if_pos a0]
    exact ⟨by omega, rfl, fun h => by simp only at h; omega⟩
  by_cases c2 : r1 ∧ 194 ≤ x0 ∧ x0 < 224 ∧ 128 ≤ x1 ∧ x1 ≤ 191
  · right
    obtain ⟨⟨g1, g2⟩, g3⟩ := (ru2 h0 h1).2 c2.2
    have e1 : chN r1 r2 r3 x0 x1 x2 x3 = 2 := by
      unfold chN
      rw [if_neg a0, if_neg, if_pos (by omega)]
      rintro (h | h | h)
      · omega
      · omega
      · refine h ⟨c2.1, ?_, ?_⟩
        · rw [if_neg (by omega), if_neg (by omega)]; omega
        · rw [if_neg (by omega), if_neg (by omega)]; omega
    have e2 : ruN r1 r2 r3 x0 x1 x2 x3 = ((x0 % 32) * 64 + x1 % 64, 2) := by
      unfold ruN
      rw [if_neg a0, if_pos ⟨g1, c2.1, g2⟩, if_pos g3]
    rw [e1, e2]
    exact ⟨by omega, rfl, fun h => by simp only at h; omega⟩
  by_cases c3 : r1 ∧ r2 ∧ (224 ≤ x0 ∧ x0 < 240 ∧ ((if x0 = 224 then 160 else 128) ≤ x1 ∧ x1 ≤ (if x0 = 237 then 159 else 191)) ∧ 128 ≤ x2 ∧ x2 ≤ 191)
  · right
    obtain ⟨k1, k2, k⟩ := c3
    obtain ⟨⟨⟨g1, g2⟩, g3⟩, g4⟩ := (ru3 h0 h1 h2).2 k
    have e1 : chN r1 r2 r3 x0 x1 x2 x3 = 3 := by
      unfold chN
      rw [if_neg a0, if_neg, if_neg (by omega), if_neg (fun h => h ⟨k2, k.2.2.2⟩), if_pos (by omega)]
      rintro (h | h | h)
      · omega
      · omega
      · refine h ⟨k1, ?_, ?_⟩
        · rw [if_neg (by omega)]; exact k.2.2.1.1
        · rw [if_neg (by omega)]; exact k.2.2.1.2
    have e2 : ruN r1 r2 r3 x0 x1 x2 x3 = ((x0 % 16) * 4096 + (x1 % 64) * 64 + x2 % 64, 3) := by
      unfold ruN
      rw [if_neg a0, if_neg (by omega), if_pos ⟨⟨g1, k1, g2⟩, k2, g3⟩, if_pos g4]
    rw [e1, e2]
    refine ⟨by omega, rfl, fun h => ?_⟩
    simp only at h
    exact ⟨k1, k2, by omega⟩
  by_cases c4 : r1 ∧ r2 ∧ r3 ∧ (240 ≤ x0 ∧ x0 ≤ 244 ∧ ((if x0 = 240 then 144 else 128) ≤ x1 ∧ x1 ≤ (if x0 = 244 then 143 else 191)) ∧ (128 ≤ x2 ∧ x2 ≤ 191) ∧ (128 ≤ x3 ∧ x3 ≤ 191))
  · right
    obtain ⟨k1, k2, k3, k⟩ := c4
    obtain ⟨⟨⟨⟨g1, g2⟩, g3⟩, g4⟩, g5⟩ := (ru4 h0 h1 h2 h3).2 k
    have e1 : chN r1 r2 r3 x0 x1 x2 x3 = 4 := by
      unfold chN
      rw [if_neg a0, if_neg, if_neg (by omega), if_neg (fun h => h ⟨k2, k.2.2.2.1⟩), if_neg (by omega), if_neg (fun h => h ⟨k3, k.2.2.2.2⟩)]
      rintro (h | h | h)
      · omega
      · omega
      · refine h ⟨k1, ?_, ?_⟩
        · have := k.2.2.1.1
          split at this
          · rename_i e; rw [if_pos e]; exact this
          · rename_i e; rw [if_neg e, if_neg (by omega)]; exact this
        · have := k.2.2.1.2
          split at this
          · rename_i e; rw [if_pos e]; exact this
          · rename_i e; rw [if_neg e, if_neg (by omega)]; exact this
    have e2 : ruN r1 r2 r3 x0 x1 x2 x3 = ((x0 % 8) * 262144 + (x1 % 64) * 4096 + (x2 % 64) * 64 + x3 % 64, 4) := by
      unfold ruN
      rw [if_neg a0, if_neg (by omega), if_neg (by omega), if_pos ⟨⟨⟨g1, k1, g2⟩, k2, g3⟩, k3, g4⟩, if_pos g5]
    rw [e1, e2]
    exact ⟨by omega, rfl, fun h => by simp only at h; omega⟩
  · left
    have e2 : ruN r1 r2 r3 x0 x1 x2 x3 = (65533, 1) := by
      unfold ruN
      rw [if_neg a0]
      split
      · rename_i g
        rw [if_neg fun g' => c2 ⟨g.2.1, (ru2 h0 h1).1 ⟨⟨g.1, g.2.2⟩, g'⟩⟩]
      split
      · rename_i g
        rw [if_neg fun g' => c3 ⟨g.1.2.1, g.2.1, (ru3 h0 h1 h2).1 ⟨⟨⟨g.1.1, g.1.2.2⟩, g.2.2⟩, g'⟩⟩]
      split
      · rename_i g
        rw [if_neg fun g' => c4 ⟨g.1.1.2.1, g.1.2.1, g.2.1, (ru4 h0 h1 h2 h3).1 ⟨⟨⟨⟨g.1.1.1, g.1.1.2.2⟩, g.1.2.2⟩, g.2.2⟩, g'⟩⟩]
      rfl
    have e3 : ¬ (r1 ∧ r2 ∧ x0 = 239 ∧ x1 = 191 ∧ x2 = 189) := by
      rintro ⟨k1, k2, rfl, rfl, rfl⟩
      exact c3 ⟨k1, k2, by simp⟩
    refine ⟨?_, e2, e3⟩
    unfold chN
    rw [if_neg a0]
    generalize hlo : (if x0 = 240 then 144 else if x0 = 224 then 160 else 128 : Nat) = lo
    generalize hhi : (if x0 = 244 then 143 else if x0 = 237 then 159 else 191 : Nat) = hi
    by_cases g : x0 < 194 ∨ 244 < x0 ∨ ¬ (r1 ∧ lo ≤ x1 ∧ x1 ≤ hi)
    · rw [if_pos g]
    rw [if_neg g]
    simp only [not_or, Decidable.not_not] at g
    obtain ⟨g1, g2, g3, g4, g5⟩ := g
    by_cases g6 : x0 < 224
    · rw [if_neg (by omega), if_neg (by omega)] at hlo hhi
      exact absurd ⟨g3, by omega, by omega, by omega, by omega⟩ c2
    rw [if_neg g6]
    by_cases g7 : ¬ (r2 ∧ 128 ≤ x2 ∧ x2 ≤ 191)
    · rw [if_pos g7]
    rw [if_neg g7]
    simp only [Decidable.not_not] at g7
    by_cases g8 : x0 < 240
    · rw [if_neg (by omega)] at hlo hhi
      subst hlo hhi
      exact absurd ⟨g3, g7.1, by omega, by omega, ⟨g4, g5⟩, g7.2⟩ c3
    rw [if_neg g8]
    by_cases g9 : ¬ (r3 ∧ 128 ≤ x3 ∧ x3 ≤ 191)
    · rw [if_pos g9]
    exfalso
    simp only [Decidable.not_not] at g9
    refine c4 ⟨g3, g7.1, g9.1, by omega, by omega, ⟨?_, ?_⟩, g7.2, g9.2⟩
    · by_cases e : x0 = 240
      · rw [if_pos e] at hlo ⊢; omega
      · rw [if_neg e] at hlo ⊢; rw [if_neg (by omega)] at hlo; omega
    · by_cases e : x0 = 244
      · rw [if_pos e] at hhi ⊢; omega
      · rw [if_neg e] at hhi ⊢; rw [if_neg (by omega)] at hhi; omega
theorem pre_iff {b : List Int} {n : Nat} (hs : byteR b) : spPre (b.drop n) [239, 191, 189] = true ↔ (n + 1 < b.length ∧ n + 2 < b.length ∧ (b.getD n 0).toNat = 239 ∧ (b.getD (n + 1) 0).toNat = 191 ∧ (b.getD (n + 2) 0).toNat = 189) := by
  unfold spPre
  rw [decide_eq_true_eq]
  show (b.drop n).take 3 = _ ↔ _
  constructor
  · intro h
    have hl := congrArg List.length h
    simp only [List.length_take, List.length_drop, List.length_cons, List.length_nil] at hl
    have h3 : n + 2 < b.length := by omega
    rw [List.drop_eq_getElem_cons (by omega), List.drop_eq_getElem_cons (by omega), List.drop_eq_getElem_cons (by omega)] at h
    simp only [List.take_succ_cons, List.take_zero, List.cons.injEq, and_true] at h
    obtain ⟨k1, k2, k3⟩ := h
    have k3 : b[n + 2] = 189 := k3
    rw [getD_lt (by omega), getD_lt (by omega), getD_lt h3, k1, k2, k3]
    exact ⟨by omega, by omega, rfl, rfl, rfl⟩
  · rintro ⟨h1, h2, h3, h4, h5⟩
    rw [getD_lt (by omega)] at h3 h4 h5
    rw [List.drop_eq_getElem_cons (by omega), List.drop_eq_getElem_cons (by omega), List.drop_eq_getElem_cons (by omega)]
    simp only [List.take_succ_cons, List.take_zero, List.cons.injEq, and_true]
    refine ⟨by omega, by omega, ?_⟩
    show b[n + 2] = 189
    omega
theorem rune_char {b : List Int} (hs : byteR b) {n : Nat} (h : n < b.length) :
    (spChar b n = 0 ∧ (spRune b n).1 = 65533 ∧ spPre (b.drop n) [239, 191, 189] = false) ∨
    (0 < spChar b n ∧ (spRune b n).2 = spChar b n ∧ ((spRune b n).1 = 65533 → spPre (b.drop n) [239, 191, 189] = true)) := by
  rw [spRune_nat, spChar_N hs h, decode_N hs n]
  have hx : ∀ k, (b.getD k 0).toNat < 256 := fun k => by rw [← mkStr_get hs]; exact UInt8.toNat_lt _
  have := ch_ru (n + 1 < b.length) (n + 2 < b.length) (n + 3 < b.length) _ _ _ _ (hx n) (hx (n + 1)) (hx (n + 2)) (hx (n + 3))
  rw [pre_iff hs, ← Bool.not_eq_true, pre_iff hs]
  rcases this with ⟨h1, h2, h3⟩ | ⟨h1, h2, h3⟩
  · left
    exact ⟨by rw [h1]; rfl, by rw [h2]; rfl, h3⟩
  · right
    exact ⟨by omega, by simp only; rw [h2], fun h => h3 (by simp only at h; omega)⟩
abbrev iopPre0 : Io := ⟨[dS, dS], [], [], [dB], none⟩
def FpPre0 (d : iopPre0.In) : Tr iopPre0.Res := .ret (.ret ((spPre d.1.1 d.1.2.1, ()), ()))
abbrev cspPre0 : List (Nat × Hc) := []
def hdpPre0 : Hd := hdT cspPre0
def lppPre0 : Lp := lpT []
def bodypPre0 (a0 : List Int) (a1 : List Int) : Option iopPre0.Res := bif decide ((↑a1.length : Int) ≤ (↑a0.length : Int)) then bif decide (0 ≤ 0) && (decide (0 ≤ (↑a1.length : Int)) && decide ((↑a1.length : Int) ≤ (↑a0.length : Int))) then some (Out.ret ((decide (List.drop (Int.toNat 0) (List.take (↑a1.length : Int).toNat a0) = a1), ()), ())) else none else some (Out.ret ((false, ()), ()))
theorem runpPre0 (a0 : List Int) (a1 : List Int) : Io.run tt hdpPre0 dr lppPre0 iopPre0 Go.Proofs.Tryz.f190 ((a0, a1, ()), ()) = bodypPre0 a0 a1 := by kernel_rfl
theorem okpPre0 : HcOk prog 190 (ioHd iopPre0 FpPre0) := by
  refine fn_sound (n := 400) hm (cs := cspPre0) .nil (lp := lppPre0) (fn := Go.Proofs.Tryz.f190) (by kernel_rfl) (by kernel_rfl) (by kernel_rfl) iopPre0 (.done (by kernel_rfl)) FpPre0 ?_
  rintro ⟨⟨(s : List Int), (p : List Int), ⟨⟩⟩, ⟨⟩⟩ out hw ho
  cases ho
  refine (runpPre0 s p).trans ?_
  show _ = some (Out.ret ((spPre s p, ()), ()))
  unfold bodypPre0
  by_cases h : p.length ≤ s.length
  · rw [bif_true (by simpa using h), bif_true (by simp; omega)]
    rfl
  · rw [bif_false (by simpa using h)]
    have : spPre s p = false := by
      unfold spPre
      rw [decide_eq_false_iff_not]
      intro e
      have := congrArg List.length e
      simp only [List.length_take] at this
      omega
    rw [this]
abbrev iopPre : Io := ⟨[dS, dS], [], [], [dB], none⟩
def FpPre (d : iopPre.In) : Tr iopPre.Res := .ret (.ret ((spPre d.1.1 d.1.2.1, ()), ()))
abbrev cspPre : List (Nat × Hc) := [(190, ioHd iopPre0 FpPre0)]
def hdpPre : Hd := hdT cspPre
def lppPre : Lp := lpT []
def bodypPre (a0 : List Int) (a1 : List Int) : Option iopPre.Res := some (Out.ret ((spPre a0 a1, ()), ()))
theorem runpPre (a0 : List Int) (a1 : List Int) : Io.run tt hdpPre dr lppPre iopPre Go.Proofs.Tryz.f176 ((a0, a1, ()), ()) = bodypPre a0 a1 := by kernel_rfl
theorem okpPre : HcOk prog 176 (ioHd iopPre FpPre) := by
  refine fn_sound (n := 400) hm (cs := cspPre) (.cons okpPre0 .nil) (lp := lppPre) (fn := Go.Proofs.Tryz.f176) (by kernel_rfl) (by kernel_rfl) (by kernel_rfl) iopPre (.done (by kernel_rfl)) FpPre ?_
  rintro ⟨⟨(s : List Int), (p : List Int), ⟨⟩⟩, ⟨⟩⟩ out hw ho
  cases ho
  exact runpPre s p
theorem spUtfN_end (b : List Int) : ∀ (n : Nat) (p : Int), 0 ≤ p → p ≤ b.length → (b.length : Int) < p + n → (spUtfN b n p).2 = true → (spUtfN b n p).1 = b.length
  | 0, p, h0, h1, h2, h => by omega
  | n + 1, p, h0, h1, h2, h => by
    unfold spUtfN at h ⊢
    split
    · rename_i h3; simp only; omega
    · rename_i h3
      rw [if_neg h3] at h
      split
      · rename_i h4; rw [if_pos h4] at h; cases h
      · rename_i h4
        rw [if_neg h4] at h
        have h5 := spChar_le (b := b) h0 (show p < (b.length : Int) by omega)
        exact spUtfN_end b n _ (by omega) (by omega) (by omega) h
theorem spUtf_end (b : List Int) (h : (spUtf b).2 = true) : (spUtf b).1 = b.length := spUtfN_end b (b.length + 1) 0 (by omega) (by omega) (by omega) h
abbrev iopUtf : Io := ⟨[dL], [], [], [dI, dB], none⟩
def FpUtf (d : iopUtf.In) : Tr iopUtf.Res := .ret (.ret (((spUtf d.1.1).1, (spUtf d.1.1).2, ()), ()))
abbrev cspUtf : List (Nat × Hc) := [(176, ioHd iopPre FpPre)]
def hdpUtf : Hd := hdT cspUtf
abbrev lopUtf_4 : Lo := ⟨⟨[.one (.hol (.sl 5 (Ty.int IntKind.u8))), .any, .any, .any, .one (.hol .str), .any, .any, .any, .any, .any, .one (.ptr 10 0), .any, .any, .any, .any, .any, .any, .any, .any, .any, .any, .any, .any, .any, .any, .any, .any], [none, none, none, none, none, none, none, none, none, none, some [.itr]]⟩, [(.ret, ⟨[.any, .any, .one (.hol (.int IntKind.i64)), .one (.hol .bool), .any, .any, .any, .any, .any, .any, .any, .any, .any, .any, .any, .any, .any, .any, .any, .any, .any, .any, .any, .any, .any, .any, .any], []⟩), (.exit 0, ⟨[.one (.hol (.sl 5 (Ty.int IntKind.u8))), .any, .any, .any, .any, .any, .any, .any, .any, .any, .any, .any, .any, .any, .any, .any, .any, .any, .any, .any, .any, .any, .any, .any, .any, .any, .any], []⟩)]⟩
-- FpUtf_4 : lopUtf_4.st.den → Tr (DenX lopUtf_4.xs) | ((h1, (h2, ())), ((h3, ()), ()))
def FpUtf_4 (d : lopUtf_4.st.den) : Tr (DenX lopUtf_4.xs) :=
  .ite (decide (d.2.1.1.2 = (0 : Int)) && decide (d.2.1.1.1 = d.1.2.1)) (.ite (spUtf d.1.2.1).2 (.ret (.pan (.ret ((), ((d.1.1, ()), ()))))) (.ret (.ret ((), (((spUtf d.1.2.1).1, (false, ())), ()))))) .no
def lppUtf : Lp := lpT [(4, loHd lopUtf_4 FpUtf_4)]
def steppUtf_4 {R : Type} (h1 : List Int) (h2 : List Int) (h3 : List Int × Int) (next : List Int → List Int → List Int × Int → Option R) (out : DenX lopUtf_4.xs → Option R) : Option R := bif decide (h3.snd < (↑h3.fst.length : Int)) then bif (spRune h3.fst h3.snd).fst == 65533 then bif decide (0 ≤ h3.snd) && (decide (h3.snd ≤ (↑h2.length : Int)) && decide ((↑h2.length : Int) ≤ (↑h2.length : Int))) then bif !spPre (List.drop h3.snd.toNat (List.take (↑h2.length : Int).toNat h2)) (List.map (fun (c : UInt8) => (↑c.toNat : Int)) [UInt8.ofBitVec (BitVec.ofFin (Fin.mk (239 % 2 ^ 8) (Nat.mod_lt 239 (BitVec.ofNat._proof_1 8)))), UInt8.ofBitVec (BitVec.ofFin (Fin.mk (191 % 2 ^ 8) (Nat.mod_lt 191 (BitVec.ofNat._proof_1 8)))), UInt8.ofBitVec (BitVec.ofFin (Fin.mk (189 % 2 ^ 8) (Nat.mod_lt 189 (BitVec.ofNat._proof_1 8))))]) then out (.ret ((), ((h3.snd, (false, ())), ()))) else next (h1) (h2) ((h3.fst, h3.snd + (spRune h3.fst h3.snd).snd)) else none else next (h1) (h2) ((h3.fst, h3.snd + (spRune h3.fst h3.snd).snd)) else out (.pan (.ret ((), ((h1, ()), ()))))
def itpUtf_4 (n : Nat) (h1 : List Int) (h2 : List Int) (h3 : List Int × Int) : Option (DenX lopUtf_4.xs) := lpN tt hdpUtf dr lppUtf 0 Go.Proofs.Tryz.f141 (topL Go.Proofs.Tryz.f141 0) n (lopUtf_4.st.mk' ((h1, (h2, ())), ((h3, ()), ()))) (decX lopUtf_4.xs)
theorem slpUtf_4 (n : Nat) (h1 : List Int) (h2 : List Int) (h3 : List Int × Int) : itpUtf_4 (n + 1) h1 h2 h3 = steppUtf_4 h1 h2 h3 (itpUtf_4 n) some := by kernel_rfl
theorem looppUtf (b s : List Int) (hs : byteR s) (hb : (s.length : Int) ≤ 9223372036854775807) : ∀ (k : Nat) (p : Int), 0 ≤ p → p ≤ s.length → (s.length : Int) < p + k →
    itpUtf_4 k b s (s, p) = if (spUtfN s k p).2 = true then some (.pan (.ret ((), ((b, ()), ())))) else some (.ret ((), (((spUtfN s k p).1, (false, ())), ()))) := by
  intro k
  induction k with
  | zero => intro p h0 h1 h2; omega
  | succ k ih =>
    intro p h0 h1 h2
    rw [slpUtf_4]
    unfold steppUtf_4
    change (bif decide (p < (s.length : Int)) then bif (spRune s p).1 == 65533 then bif decide (0 ≤ p) && (decide (p ≤ (s.length : Int)) && decide ((s.length : Int) ≤ (s.length : Int))) then bif !spPre (List.drop p.toNat (List.take (s.length : Int).toNat s)) [239, 191, 189] then some (.ret ((), ((p, (false, ())), ()))) else itpUtf_4 k b s (s, p + (spRune s p).2) else none else itpUtf_4 k b s (s, p + (spRune s p).2) else some (.pan (.ret ((), ((b, ()), ()))))) = _
    by_cases h3 : (s.length : Int) ≤ p
    · have h4 : ¬ p < (s.length : Int) := by omega
      have hS : spUtfN s (k + 1) p = (p, true) := by simp [spUtfN, h3]
      simp [hS, h4]
    · have h4 : p < (s.length : Int) := by omega
      obtain ⟨n, rfl⟩ := toNat_of h0
      have h5 := rune_char hs (show n < s.length by omega)
      have h6 := spChar_le h0 h4
      rw [bif_true (by simpa using h4), Int.toNat_natCast, Int.toNat_natCast, List.take_length]
      rcases h5 with ⟨g1, g2, g3⟩ | ⟨g1, g2, g3⟩
      · have hS : spUtfN s (k + 1) n = (↑n, false) := by simp [spUtfN, h3, g1]
        rw [hS, g3, bif_true (by simpa using g2), bif_true (by simp; omega)]
        rfl
      · have hS : spUtfN s (k + 1) n = spUtfN s k (n + spChar s n) := by
          simp only [spUtfN]
          rw [if_neg h3, if_neg (by omega)]
        rw [hS, g2]
        have hn := ih (n + spChar s n) (by omega) (by omega) (by omega)
        by_cases g4 : (spRune s n).1 = 65533
        · rw [bif_true (by simpa using g4), bif_true (by simp; omega), g3 g4]
          exact hn
        · rw [bif_false (by simpa using g4)]
          exact hn
def bodypUtf (a0 : List Int) : Option iopUtf.Res := (FpUtf_4 ((a0, (a0, ())), (((a0, 0), ()), ()))).run fun y => match y with | .ret ((), ((x13, x14, ()), ())) => (some (Out.ret ((x13, x14, ()), ()))) | .pan (.ret ((), ((x15, ()), ()))) => (some (Out.ret (((↑x15.length : Int), true, ()), ())))
theorem runpUtf (a0 : List Int) : Io.run tt hdpUtf dr lppUtf iopUtf Go.Proofs.Tryz.f141 ((a0, ()), ()) = bodypUtf a0 := by kernel_rfl
theorem okpUtf : HcOk prog 141 (ioHd iopUtf FpUtf) := by
  refine fn_sound (n := 400) hm (cs := cspUtf) (.cons okpPre .nil) (lp := lppUtf) (fn := Go.Proofs.Tryz.f141) (by kernel_rfl) (by kernel_rfl) (by kernel_rfl) iopUtf
    (.step (h0 := loHd lopUtf_4 FpUtf_4) (by kernel_rfl) (loop_sound (n := 400) hm (cs := cspUtf) (.cons okpPre .nil) (lp := lppUtf) (fn := Go.Proofs.Tryz.f141) (.done (by kernel_rfl)) lopUtf_4 FpUtf_4 ?_) (.done (by kernel_rfl))) FpUtf ?_
  · rintro ⟨⟨(b : List Int), (s : List Int), ⟨⟩⟩, ⟨⟨⟨(s' : List Int), (p : Int)⟩, ⟨⟩⟩, ⟨⟩⟩⟩ y hw hy
    obtain ⟨hg, hy⟩ := Tr.guard hy
    simp only [Bool.and_eq_true, decide_eq_true_eq] at hg
    have hg1 : p = 0 := hg.1
    have hg2 : s' = s := hg.2
    subst hg1 hg2
    have hs : byteR s' ∧ s'.length ≤ maxLen := hw.1.2.1
    have hb := hs.2
    rw [maxLen_eq] at hb
    refine ⟨s'.length + 1, (looppUtf b s' hs.1 (by omega) (s'.length + 1) 0 (by omega) (by omega) (by omega)).trans ?_⟩
    rw [← hy]
    simp only [Tr.val_ite, Tr.val_ret]
    rfl
  · rintro ⟨⟨(b : List Int), ⟨⟩⟩, ⟨⟩⟩ out hw ho
    cases ho
    refine (runpUtf b).trans ?_
    unfold bodypUtf FpUtf_4
    show _ = some (Out.ret (((spUtf b).1, (spUtf b).2, ()), ()))
    simp only [Tr.run_ite, Tr.run_ret]
    have he : (spUtf b).2 = true → (spUtf b).1 = b.length := spUtf_end b
    generalize spUtf b = r at *
    obtain ⟨r1, r2⟩ := r
    cases r2 with
    | true =>
      have he : r1 = b.length := he rfl
      simp [he]
    | false => simp
end
end Go.Proofs.YtjpeefegeobgfaaGreat.Sym
namespace Go.Proofs.YtjpeefegeobgfaaGreat.Sym
open Go
set_option linter.unusedSimpArgs false
set_option linter.unusedVariables false
noncomputable section
abbrev clC : Code := fnCode Go.Proofs.Tryz.f166
abbrev clO : Array Oper := regOps (seqL (seqL (seqR clC)))
abbrev clX : Code := condT (seqR (seqL (seqR clC)))
abbrev clY : Code := seqR (seqR clC)
abbrev iopClone : Io := ⟨[dL], [], [], [dO], none⟩
def FpClone (d : iopClone.In) : Tr iopClone.Res := .ite (decide (d.1.1.length ≤ 4294967296)) (.ret (.ret ((d.1.1, ()), ()))) .no
abbrev clHd : Hd := hdT []
abbrev clLp : Lp := lpT []
def clA (b : List Int) (v3 v4 : V) : AS := ⟨[.one (.lst 5 (.int .u8) b 0), .any, .one (.lst 5 (.int .u8) [] 5), v3, v4, .any, .any, .any], [], []⟩
def clK (ex : Ex) (A : AS) : Option iopClone.Res := match ex with
  | .ret => iopClone.fin tt Go.Proofs.Tryz.f166 .ret A
  | _ => none
abbrev clLr : Nat := lrOf Go.Proofs.Tryz.f166
theorem cl0 (b : List Int) : ev tt clHd dr clLp 0 clLr (seqL clC) clLr [] (iopClone.start 8 ((b, ()), ())) (fun ex A => match ex with | .normal => some A | _ => none) = some (clA b .any .any) := by kernel_rfl
theorem clx (b : List Int) : ev tt clHd dr clLp 0 clLr clX clLr [] (clA b (.one (.lst 5 (.int .u8) b 0)) (.one (.bool true))) clK = some (.ret (([], ()), ())) := by kernel_rfl
theorem cly (b : List Int) : ev tt clHd dr clLp 0 clLr clY clLr [] (clA b (.one (.lst 5 (.int .u8) b 0)) (.one (.bool false))) clK = bif decide (([] : List Int).length + b.length ≤ 4294967296) then some (.ret ((b, ()), ())) else none := by kernel_rfl
theorem okpClone : HcOk prog 166 (ioHd iopClone FpClone) := by
  have htt := ttOf_ok Go.Proofs.Tryz.prog 400
  refine io_soundG (P := prog) htt (fn := Go.Proofs.Tryz.f166) (by kernel_rfl) (by kernel_rfl) iopClone FpClone ?_ (by kernel_rfl)
  rintro ⟨⟨(b : List Int), ⟨⟩⟩, ⟨⟩⟩ out hwf hout F G cst w vals R Rl hkb hend
  obtain ⟨hg, hout⟩ := Tr.guard hout
  have hg : b.length ≤ 4294967296 := by simpa using hg
  cases hout
  have hc : (Go.Proofs.Tryz.f166).body = some (.seq (seqL clC) (.seq (.seq (.region 1 clO false) (.cond (.tmp 4) clX .skip)) clY)) := by kernel_rfl
  have hdr := orderD_ok (ttOf_ok Go.Proofs.Tryz.prog 400)
  have hhd : HdOk prog clHd := hdT_ok HcsOk.nil
  refine calls_of_wp (P := prog) (fn := Go.Proofs.Tryz.f166) (by kernel_rfl) hc ?_
  refine wp_seq (ev_sound htt hm hhd hdr hkb (lp := clLp) _ (noLoops (c := (seqL clC)) (by kernel_rfl)) (cl0 b) Rl ?_)
  intro ex A1 G1 a1 w1 R1 hd1 h1
  cases ex with
  | normal =>
    simp only [Option.some.injEq] at h1
    subst h1
    show (Code.seq (.seq (.region 1 clO false) (.cond (.tmp 4) clX .skip)) clY).wp prog _ a1 w1
    refine wp_seq (wp_seq (wp_region ?_))
    have hr : List.range clO.size = [0, 1] := by kernel_rfl
    rw [hr]
    obtain ⟨p0, f0, ho0⟩ : ∃ pos after, clO[0]? = some { dst := some 3, op := .move (.tmp 0), type := 28, pos := pos, after := after, guard := none } := ⟨_, _, rfl⟩
    obtain ⟨p1, f1, ho1⟩ : ∃ pos after, clO[1]? = some { dst := some 4, op := .binOp .eql 28 (.tmp 3) (.const (.slice none 0 0)) 28, type := 4, pos := pos, after := after, guard := none } := ⟨_, _, rfl⟩
    have hu : Program.underlying prog 28 = some (.slice 5) := by kernel_rfl
    simp only [wpOps, ho0, ho1]
    rw [if_pos (by rfl)]
    refine .inl ?_
    obtain ⟨u0, hu0, hv0⟩ := evP_sound (P := prog) htt (fun x => R1.opd x) R1.ob { dst := some 3, op := .move (.tmp 0), type := 28, pos := p0, after := f0, guard := none } (id := 7) (chk := true) (v := .one (.lst 5 (.int .u8) b 0)) (by kernel_rfl) rfl
    unfold Oper.wp
    rw [hu0, Oper.upon_value]
    have R2 := R1.puts hv0 (some 3)
    have hd2 : (a1.put (some 3) u0).defers = [] := (Act.put_defers' _ _ _).trans hd1
    generalize a1.put (some 3) u0 = a2 at R2 hd2 ⊢
    rw [if_pos (by rfl)]
    refine .inl ?_
    obtain ⟨Aa, cap, he, hc1, hc2, hrow, _⟩ : Rc G1 w1 (.lst 5 (.int .u8) b 0) (a2.eval (.tmp 3)) := R2.opd (.tmp 3)
    have hrun : (execOp a2.eval { dst := some 4, op := .binOp .eql 28 (.tmp 3) (.const (.slice none 0 0)) 28, type := 4, pos := p1, after := f1, guard := none }).run prog w1 = .ok (.value (.bool Aa.isNone)) w1 := by
      have h1 := Go.Lib.run_eql_slice_nil (P := prog) w1 28 5 Aa b.length cap 0 0 hu
      have h2 : a2.eval (.const (.slice none 0 0)) = .slice none 0 0 := rfl
      simp only [execOp, Sem.run_bind, he, h2]
      simp [eqGuard, h1]
    rw [hrun, Oper.upon_value]
    have R3 := R2.puts (v := .one (.bool Aa.isNone)) (u := .bool Aa.isNone) rfl (some 4)
    have hd3 : (a2.put (some 4) (.bool Aa.isNone)).defers = [] := (Act.put_defers' _ _ _).trans hd2
    generalize a2.put (some 4) (.bool Aa.isNone) = a3 at R3 hd3 ⊢
    have hb4 : a3.eval (.tmp 4) = .bool Aa.isNone := R3.opd (.tmp 4)
    refine wp_cond hb4 ?_
    cases Aa with
    | none =>
      have hb : b = [] := Classical.byContradiction fun hne => by
        obtain ⟨_, _, e, _⟩ := hrow hne
        cases e
      subst hb
      refine ev_sound htt hm hhd hdr hkb (lp := clLp) (l := clLr) (x := []) clX (noLoops (c := clX) (by kernel_rfl)) (clx []) R3 ?_
      intro ex A' G' a' w' R' hd' hk
      cases ex with
      | ret => exact ⟨hd'.trans hd3, hend .ret A' G' a' w' R' hk⟩
      | normal => cases hk
      | exit i => cases hk
      | panic v => cases hk
    | some ad =>
      refine wp_skip ?_
      refine ev_sound htt hm hhd hdr hkb (lp := clLp) (l := clLr) (x := []) clY (noLoops (c := clY) (by kernel_rfl)) ((cly b).trans (bif_true (by simpa using hg) _ _)) R3 ?_
      intro ex A' G' a' w' R' hd' hk
      cases ex with
      | ret => exact ⟨hd'.trans hd3, hend .ret A' G' a' w' R' hk⟩
      | normal => cases hk
      | exit i => cases hk
      | panic v => cases hk
  | exit i => cases h1
  | ret => cases h1
  | panic v => cases h1
end
end Go.Proofs.YtjpeefegeobgfaaGreat.Sym
namespace Go.Proofs.YtjpeefegeobgfaaGreat.Sym
open Go
set_option linter.unusedSimpArgs false
set_option linter.unusedVariables false
noncomputable section
abbrev oWr : List Sh := [dO, dI]
abbrev d16 : Sh := .dat (.int .i16) false false
abbrev dS32 : Sh := .dat (.int .i32) false false
abbrev d64u : Sh := .dat (.int .u64) false false
def spBE (v : Int) : Nat → List Int
  | 0 => []
  | n + 1 => (v / 256 ^ n) % 256 :: spBE v n
theorem spBE_len (v : Int) : ∀ n, (spBE v n).length = n
  | 0 => rfl
  | n + 1 => by rw [spBE, List.length_cons, spBE_len v n]
def spWr (b : List Int) (most v : Int) (n : Nat) : Int × List Int := if most - b.length < n then (10, b) else (0, b ++ spBE v n)
def spWok (b : List Int) (most : Int) : Bool := decide (b.length ≤ 4294960000) && (decide (0 ≤ most) && decide (most ≤ (1048576 : Int)))
abbrev iowRoom : Io := ⟨[.ptr 0 0], [oWr], [], [dI], none⟩
def FwRoom (d : iowRoom.In) : Tr iowRoom.Res := .ret (.ret ((IntKind.i64.wrap (d.2.1.2.1 - d.2.1.1.length), ()), ((d.2.1.1, (d.2.1.2.1, ())), ())))
abbrev cswRoom : List (Nat × Hc) := []
def hdwRoom : Hd := hdT cswRoom
def lpwRoom : Lp := lpT []
def bodywRoom (a0 : List Int) (a1 : Int) : Option iowRoom.Res := some (Out.ret ((IntKind.i64.wrap (a1 - (↑a0.length : Int)), ()), (a0, a1, ()), ()))
theorem runwRoom (a0 : List Int) (a1 : Int) : Io.run tt hdwRoom dr lpwRoom iowRoom Go.Proofs.Tryz.f177 (((), ()), (a0, a1, ()), ()) = bodywRoom a0 a1 := by kernel_rfl
theorem okwRoom : HcOk prog 177 (ioHd iowRoom FwRoom) := by
  refine fn_sound (n := 400) hm (cs := cswRoom) HcsOk.nil (lp := lpwRoom) (fn := Go.Proofs.Tryz.f177) (by kernel_rfl) (by kernel_rfl) (by kernel_rfl) iowRoom (.done (by kernel_rfl)) FwRoom ?_
  rintro ⟨⟨⟨⟩, ⟨⟩⟩, ⟨⟨(b : List Int), (m : Int), ⟨⟩⟩, ⟨⟩⟩⟩ out hw ho
  rw [← ho]
  exact runwRoom b m
abbrev iownumber : Io := ⟨[.ptr 0 0, d64u, dI], [oWr], [], [dI], none⟩
def Fwnumber (d : iownumber.In) : Tr iownumber.Res :=
  .ite (spWok d.2.1.1 d.2.1.2.1 && (decide ((0 : Int) ≤ d.1.2.2.1) && decide (d.1.2.2.1 ≤ (8 : Int)))) (.ret (.ret (((spWr d.2.1.1 d.2.1.2.1 d.1.2.1 d.1.2.2.1.toNat).1, ()), (((spWr d.2.1.1 d.2.1.2.1 d.1.2.1 d.1.2.2.1.toNat).2, (d.2.1.2.1, ())), ())))) .no
abbrev cswnumber : List (Nat × Hc) := [(177, ioHd iowRoom FwRoom)]
def hdwnumber : Hd := hdT cswnumber
abbrev lownumber_5 : Lo := ⟨⟨[.one (.ptr 0 0), .one (.hol (.int IntKind.u64)), .any, .any, .any, .any, .any, .one (.hol (.int IntKind.i64)), .any, .any, .any, .any, .any, .any, .any, .any, .any, .any, .any, .any, .any, .any, .any, .any, .any, .any, .any, .any, .any, .any, .any, .any], [some [.onl 5 (Ty.int IntKind.u8) 2, .hol (.int IntKind.i64)]]⟩, [(.exit 0, ⟨[.any, .any, .any, .any, .any, .any, .any, .any, .any, .any, .any, .any, .any, .any, .any, .any, .any, .any, .any, .any, .any, .any, .any, .any, .any, .any, .any, .any, .any, .any, .any, .any], [some [.onl 5 (Ty.int IntKind.u8) 2, .hol (.int IntKind.i64)]]⟩)]⟩
-- Fwnumber_5 : lownumber_5.st.den → Tr (DenX lownumber_5.xs) | ((h4, (h5, ())), ((h6, (h7, ())), ()))
def Fwnumber_5 (d : lownumber_5.st.den) : Tr (DenX lownumber_5.xs) :=
  .ite (decide (-1 ≤ d.1.2.1) && (decide (d.1.2.1 ≤ 7) && decide (d.2.1.1.length ≤ 4294960000))) (.ret (.ret ((), ((), ((d.2.1.1 ++ spBE d.1.1 (d.1.2.1 + 1).toNat, (d.2.1.2.1, ())), ()))))) .no
def lpwnumber : Lp := lpT [(5, loHd lownumber_5 Fwnumber_5)]
def stepwnumber_5 {R : Type} (h4 : Int) (h5 : Int) (h6 : List Int) (h7 : Int) (next : Int → Int → List Int → Int → Option R) (out : DenX lownumber_5.xs → Option R) : Option R := bif decide (0 ≤ h5) then bif decide (0 ≤ IntKind.i64.wrap (8 * h5)) then bif !(0 == 1 + 29 || false) && true && decide (h6.length + [IntKind.u8.wrap (spShr IntKind.u64 h4 (IntKind.i64.wrap (8 * h5)))].length ≤ 4294967296) then next (h4) (IntKind.i64.wrap (h5 - 1)) (h6 ++ [IntKind.u8.wrap (spShr IntKind.u64 h4 (IntKind.i64.wrap (8 * h5)))]) (h7) else none else none else out (.ret ((), ((), ((h6, (h7, ())), ()))))
def itwnumber_5 (n : Nat) (h4 : Int) (h5 : Int) (h6 : List Int) (h7 : Int) : Option (DenX lownumber_5.xs) := lpN tt hdwnumber dr lpwnumber 1 Go.Proofs.Tryz.f175 (topL Go.Proofs.Tryz.f175 0) n (lownumber_5.st.mk' ((h4, (h5, ())), ((h6, (h7, ())), ()))) (decX lownumber_5.xs)
theorem slwnumber_5 (n : Nat) (h4 : Int) (h5 : Int) (h6 : List Int) (h7 : Int) : itwnumber_5 (n + 1) h4 h5 h6 h7 = stepwnumber_5 h4 h5 h6 h7 (itwnumber_5 n) some := by kernel_rfl
theorem shr_byte {v : Int} (h0 : 0 ≤ v) (h1 : v ≤ 18446744073709551615) {i : Nat} (hi : i ≤ 7) : IntKind.u8.wrap (spShr .u64 v (IntKind.i64.wrap (8 * (i : Int)))) = (v / 256 ^ i) % 256 := by
  rw [wrap_i64 (n := 8 * (i : Int)) (by omega) (by omega)]
  unfold spShr
  have e : min (8 * (i : Int)).toNat (IntKind.u64).bits = 8 * i := by
    show min (8 * (i : Int)).toNat 64 = 8 * i
    omega
  rw [e]
  have e2 : (2 : Int) ^ (8 * i) = 256 ^ i := by rw [Int.pow_mul]; rfl
  have hp : (0 : Int) < 256 ^ i := Int.pow_pos (by decide)
  rw [e2, Int.fdiv_eq_ediv_of_nonneg _ (Int.le_of_lt hp)]
  have h3 : 0 ≤ v / 256 ^ i := Int.ediv_nonneg h0 (Int.le_of_lt hp)
  have h4 : v / 256 ^ i ≤ v := Int.ediv_le_self _ h0
  rw [wrap_id (k := .u64) (by simp [inR, IntKind.min, IntKind.max, IntKind.signed, IntKind.bits]; omega)]
  simp [IntKind.wrap, IntKind.signed, IntKind.bits]
theorem loopwnumber {v : Int} (h0 : 0 ≤ v) (h1 : v ≤ 18446744073709551615) (most : Int) : ∀ (k m : Nat) (b : List Int), m < k → m ≤ 8 → b.length + m ≤ 4294967296 →
    itwnumber_5 k v ((m : Int) - 1) b most = some (.ret ((), ((), ((b ++ spBE v m, (most, ())), ())))) := by
  intro k
  induction k with
  | zero => intro m b h; omega
  | succ k ih =>
    intro m b h2 h3 h4
    rw [slwnumber_5]
    unfold stepwnumber_5
    cases m with
    | zero => simp [spBE]
    | succ m =>
      have e : ((m + 1 : Nat) : Int) - 1 = (m : Int) := by omega
      rw [e, bif_true (by simp), wrap_i64 (n := (m : Int) - 1) (by omega) (by omega), shr_byte h0 h1 (by omega), wrap_i64 (n := 8 * (m : Int)) (by omega) (by omega), bif_true (by simp; omega), bif_true (by simp; omega), ih m _ (by omega) (by omega) (by simp; omega)]
      simp [spBE]
def bodywnumber (a0 : Int) (a1 : Int) (a2 : List Int) (a3 : Int) : Option iownumber.Res := bif decide (IntKind.i64.wrap (a3 - (↑a2.length : Int)) < a1) then some (Out.ret ((10, ()), (a2, a3, ()), ())) else (Fwnumber_5 ((a0, (IntKind.i64.wrap (a1 - 1), ())), ((a2, (a3, ())), ()))).run fun y => match y with | .ret ((), ((), (x14, x15, ()), ())) => (some (Out.ret ((0, ()), (x14, x15, ()), ())))
theorem runwnumber (a0 : Int) (a1 : Int) (a2 : List Int) (a3 : Int) : Io.run tt hdwnumber dr lpwnumber iownumber Go.Proofs.Tryz.f175 (((), a0, a1, ()), (a2, a3, ()), ()) = bodywnumber a0 a1 a2 a3 := by kernel_rfl
theorem okwnumber : HcOk prog 175 (ioHd iownumber Fwnumber) := by
  refine fn_sound (n := 400) hm (cs := cswnumber) (.cons okwRoom .nil) (lp := lpwnumber) (fn := Go.Proofs.Tryz.f175) (by kernel_rfl) (by kernel_rfl) (by kernel_rfl) iownumber (.step (h0 := loHd lownumber_5 Fwnumber_5) (by kernel_rfl) (loop_sound (n := 400) hm (cs := cswnumber) (.cons okwRoom .nil) (lp := lpwnumber) (fn := Go.Proofs.Tryz.f175) (.done (by kernel_rfl)) lownumber_5 Fwnumber_5 ?_) (.done (by kernel_rfl))) Fwnumber ?_
  · rintro ⟨⟨(v : Int), (i : Int), ⟨⟩⟩, ⟨⟨(b : List Int), (m : Int), ⟨⟩⟩, ⟨⟩⟩⟩ y hw hy
    obtain ⟨hg, hy⟩ := Tr.guard hy
    simp only [Bool.and_eq_true, decide_eq_true_eq] at hg
    have hv : inR .u64 v := hw.1.1
    simp [inR, IntKind.min, IntKind.max, IntKind.signed, IntKind.bits] at hv
    have g1 : (-1 : Int) ≤ i := hg.1
    have g2 : i ≤ (7 : Int) := hg.2.1
    have g3 : b.length ≤ 4294960000 := hg.2.2
    obtain ⟨n, hn⟩ : ∃ n : Nat, i = (n : Int) - 1 := ⟨(i + 1).toNat, by omega⟩
    subst hn
    refine ⟨10, (loopwnumber hv.1 (by omega) m 10 n b (by omega) (by omega) (by omega)).trans ?_⟩
    rw [← hy, show ((n : Int) - 1 + 1).toNat = n by omega]; rfl
  · rintro ⟨⟨⟨⟩, (v : Int), (n : Int), ⟨⟩⟩, ⟨⟨(b : List Int), (m : Int), ⟨⟩⟩, ⟨⟩⟩⟩ out hw ho
    obtain ⟨hg, ho⟩ := Tr.guard ho
    simp only [spWok, Bool.and_eq_true, decide_eq_true_eq] at hg
    obtain ⟨⟨h1, h2, h3⟩, h4, h5⟩ := hg
    have h4 : (0 : Int) ≤ n := h4
    have h5 : n ≤ (8 : Int) := h5
    cases ho
    refine (runwnumber v n b m).trans ?_
    unfold bodywnumber Fwnumber_5
    simp only
    rw [wrap_i64 (n := m - (b.length : Int)) (by omega) (by omega), wrap_i64 (n := n - 1) (by omega) (by omega), show n - 1 + 1 = n by omega]
    unfold spWr
    by_cases hl : m - (b.length : Int) < n
    · rw [bif_true (by simpa using hl), if_pos (by omega)]
    · rw [bif_false (by simpa using hl), if_neg (by omega)]
      have : (decide (-1 ≤ n - 1) && (decide (n - 1 ≤ 7) && decide (b.length ≤ 4294960000))) = true := by simp; omega
      rw [this]
      rfl
theorem spBE_u64 (v : Int) {n : Nat} (h : n ≤ 8) : spBE (IntKind.u64.wrap v) n = spBE v n := by
  have e : IntKind.u64.wrap v = v % 18446744073709551616 := by simp [IntKind.wrap, IntKind.signed, IntKind.bits]
  rw [e]
  have key : ∀ k : Nat, k < 8 → (v % 18446744073709551616 / 256 ^ k) % 256 = (v / 256 ^ k) % 256 := by
    intro k hk
    match k, hk with
    | 0, _ => omega
    | 1, _ => omega
    | 2, _ => omega
    | 3, _ => omega
    | 4, _ => omega
    | 5, _ => omega
    | 6, _ => omega
    | 7, _ => omega
  induction n with
  | zero => rfl
  | succ n ih => rw [spBE, spBE, key n (by omega), ih (by omega)]
abbrev iowI16 : Io := ⟨[.ptr 0 0, d16], [oWr], [], [dI], none⟩
def FwI16 (d : iowI16.In) : Tr iowI16.Res :=
  .ite (spWok d.2.1.1 d.2.1.2.1) (.ret (.ret (((spWr d.2.1.1 d.2.1.2.1 d.1.2.1 2).1, ()), (((spWr d.2.1.1 d.2.1.2.1 d.1.2.1 2).2, (d.2.1.2.1, ())), ())))) .no
abbrev cswI16 : List (Nat × Hc) := [(175, ioHd iownumber Fwnumber)]
def hdwI16 : Hd := hdT cswI16
def lpwI16 : Lp := lpT []
def bodywI16 (a0 : Int) (a1 : List Int) (a2 : Int) : Option iowI16.Res := bif spWok a1 a2 && (decide (0 ≤ 2) && decide (2 ≤ 8)) then some (Out.ret (((spWr a1 a2 (IntKind.u64.wrap a0) (Int.toNat 2)).fst, ()), ((spWr a1 a2 (IntKind.u64.wrap a0) (Int.toNat 2)).snd, a2, ()), ())) else none
theorem runwI16 (a0 : Int) (a1 : List Int) (a2 : Int) : Io.run tt hdwI16 dr lpwI16 iowI16 Go.Proofs.Tryz.f145 (((), a0, ()), (a1, a2, ()), ()) = bodywI16 a0 a1 a2 := by kernel_rfl
theorem okwI16 : HcOk prog 145 (ioHd iowI16 FwI16) := by
  refine fn_sound (n := 400) hm (cs := cswI16) (.cons okwnumber .nil) (lp := lpwI16) (fn := Go.Proofs.Tryz.f145) (by kernel_rfl) (by kernel_rfl) (by kernel_rfl) iowI16 (.done (by kernel_rfl)) FwI16 ?_
  rintro ⟨⟨⟨⟩, (v : Int), ⟨⟩⟩, ⟨⟨(b : List Int), (m : Int), ⟨⟩⟩, ⟨⟩⟩⟩ out hw ho
  obtain ⟨hg, ho⟩ := Tr.guard ho
  have hg : spWok b m = true := hg
  cases ho
  refine (runwI16 v b m).trans ?_
  unfold bodywI16
  have e : spWr b m (IntKind.u64.wrap v) 2 = spWr b m v 2 := by unfold spWr; rw [spBE_u64 v (by decide)]
  simp [hg, e]
abbrev iowI32 : Io := ⟨[.ptr 0 0, dS32], [oWr], [], [dI], none⟩
def FwI32 (d : iowI32.In) : Tr iowI32.Res :=
  .ite (spWok d.2.1.1 d.2.1.2.1) (.ret (.ret (((spWr d.2.1.1 d.2.1.2.1 d.1.2.1 4).1, ()), (((spWr d.2.1.1 d.2.1.2.1 d.1.2.1 4).2, (d.2.1.2.1, ())), ())))) .no
abbrev cswI32 : List (Nat × Hc) := [(175, ioHd iownumber Fwnumber)]
def hdwI32 : Hd := hdT cswI32
def lpwI32 : Lp := lpT []
def bodywI32 (a0 : Int) (a1 : List Int) (a2 : Int) : Option iowI32.Res := bif spWok a1 a2 && (decide (0 ≤ 4) && decide (4 ≤ 8)) then some (Out.ret (((spWr a1 a2 (IntKind.u64.wrap a0) (Int.toNat 4)).fst, ()), ((spWr a1 a2 (IntKind.u64.wrap a0) (Int.toNat 4)).snd, a2, ()), ())) else none
theorem runwI32 (a0 : Int) (a1 : List Int) (a2 : Int) : Io.run tt hdwI32 dr lpwI32 iowI32 Go.Proofs.Tryz.f139 (((), a0, ()), (a1, a2, ()), ()) = bodywI32 a0 a1 a2 := by kernel_rfl
theorem okwI32 : HcOk prog 139 (ioHd iowI32 FwI32) := by
  refine fn_sound (n := 400) hm (cs := cswI32) (.cons okwnumber .nil) (lp := lpwI32) (fn := Go.Proofs.Tryz.f139) (by kernel_rfl) (by kernel_rfl) (by kernel_rfl) iowI32 (.done (by kernel_rfl)) FwI32 ?_
  rintro ⟨⟨⟨⟩, (v : Int), ⟨⟩⟩, ⟨⟨(b : List Int), (m : Int), ⟨⟩⟩, ⟨⟩⟩⟩ out hw ho
  obtain ⟨hg, ho⟩ := Tr.guard ho
  have hg : spWok b m = true := hg
  cases ho
  refine (runwI32 v b m).trans ?_
  unfold bodywI32
  have e : spWr b m (IntKind.u64.wrap v) 4 = spWr b m v 4 := by unfold spWr; rw [spBE_u64 v (by decide)]
  simp [hg, e]
abbrev iowI64 : Io := ⟨[.ptr 0 0, .dat (.int .i64) false false], [oWr], [], [dI], none⟩
def FwI64 (d : iowI64.In) : Tr iowI64.Res :=
  .ite (spWok d.2.1.1 d.2.1.2.1) (.ret (.ret (((spWr d.2.1.1 d.2.1.2.1 d.1.2.1 8).1, ()), (((spWr d.2.1.1 d.2.1.2.1 d.1.2.1 8).2, (d.2.1.2.1, ())), ())))) .no
abbrev cswI64 : List (Nat × Hc) := [(175, ioHd iownumber Fwnumber)]
def hdwI64 : Hd := hdT cswI64
def lpwI64 : Lp := lpT []
def bodywI64 (a0 : Int) (a1 : List Int) (a2 : Int) : Option iowI64.Res := bif spWok a1 a2 && (decide (0 ≤ 8) && decide (8 ≤ 8)) then some (Out.ret (((spWr a1 a2 (IntKind.u64.wrap a0) (Int.toNat 8)).fst, ()), ((spWr a1 a2 (IntKind.u64.wrap a0) (Int.toNat 8)).snd, a2, ()), ())) else none
theorem runwI64 (a0 : Int) (a1 : List Int) (a2 : Int) : Io.run tt hdwI64 dr lpwI64 iowI64 Go.Proofs.Tryz.f143 (((), a0, ()), (a1, a2, ()), ()) = bodywI64 a0 a1 a2 := by kernel_rfl
theorem okwI64 : HcOk prog 143 (ioHd iowI64 FwI64) := by
  refine fn_sound (n := 400) hm (cs := cswI64) (.cons okwnumber .nil) (lp := lpwI64) (fn := Go.Proofs.Tryz.f143) (by kernel_rfl) (by kernel_rfl) (by kernel_rfl) iowI64 (.done (by kernel_rfl)) FwI64 ?_
  rintro ⟨⟨⟨⟩, (v : Int), ⟨⟩⟩, ⟨⟨(b : List Int), (m : Int), ⟨⟩⟩, ⟨⟩⟩⟩ out hw ho
  obtain ⟨hg, ho⟩ := Tr.guard ho
  have hg : spWok b m = true := hg
  cases ho
  refine (runwI64 v b m).trans ?_
  unfold bodywI64
  have e : spWr b m (IntKind.u64.wrap v) 8 = spWr b m v 8 := by unfold spWr; rw [spBE_u64 v (by decide)]
  simp [hg, e]
abbrev iowNew : Io := ⟨[dI], [], [oWr], [.ptr 0 0], none⟩
def FwNew (d : iowNew.In) : Tr iowNew.Res := .ret (.ret (((), ()), ((([] : List Int), (spMin (spMax d.1.1 0) 1048576, ())), ())))
abbrev cswNew : List (Nat × Hc) := []
def hdwNew : Hd := hdT cswNew
def lpwNew : Lp := lpT []
def bodywNew (a0 : Int) : Option iowNew.Res := some (Out.ret (((), ()), ([], spMin (spMax a0 0) 1048576, ()), ()))
theorem runwNew (a0 : Int) : Io.run tt hdwNew dr lpwNew iowNew Go.Proofs.Tryz.f126 ((a0, ()), ()) = bodywNew a0 := by kernel_rfl
theorem okwNew : HcOk prog 126 (ioHd iowNew FwNew) := by
  refine fn_sound (n := 400) hm (cs := cswNew) HcsOk.nil (lp := lpwNew) (fn := Go.Proofs.Tryz.f126) (by kernel_rfl) (by kernel_rfl) (by kernel_rfl) iowNew (.done (by kernel_rfl)) FwNew ?_
  rintro ⟨⟨(m : Int), ⟨⟩⟩, ⟨⟩⟩ out hw ho
  rw [← ho]
  exact runwNew m
abbrev iowBytes : Io := ⟨[.ptr 0 0], [oWr], [], [dO], none⟩
def FwBytes (d : iowBytes.In) : Tr iowBytes.Res := .ite (decide (d.2.1.1.length ≤ 4294967296)) (.ret (.ret ((d.2.1.1, ()), ((d.2.1.1, (d.2.1.2.1, ())), ())))) .no
abbrev cswBytes : List (Nat × Hc) := [(166, ioHd iopClone FpClone)]
def hdwBytes : Hd := hdT cswBytes
def lpwBytes : Lp := lpT []
def bodywBytes (a0 : List Int) (a1 : Int) : Option iowBytes.Res := bif decide (a0.length ≤ 4294967296) then some (Out.ret ((a0, ()), (a0, a1, ()), ())) else none
theorem runwBytes (a0 : List Int) (a1 : Int) : Io.run tt hdwBytes dr lpwBytes iowBytes Go.Proofs.Tryz.f128 (((), ()), (a0, a1, ()), ()) = bodywBytes a0 a1 := by kernel_rfl
theorem okwBytes : HcOk prog 128 (ioHd iowBytes FwBytes) := by
  refine fn_sound (n := 400) hm (cs := cswBytes) (.cons okpClone .nil) (lp := lpwBytes) (fn := Go.Proofs.Tryz.f128) (by kernel_rfl) (by kernel_rfl) (by kernel_rfl) iowBytes (.done (by kernel_rfl)) FwBytes ?_
  rintro ⟨⟨⟨⟩, ⟨⟩⟩, ⟨⟨(b : List Int), (m : Int), ⟨⟩⟩, ⟨⟩⟩⟩ out hw ho
  obtain ⟨hg, ho⟩ := Tr.guard ho
  cases ho
  exact (runwBytes b m).trans (bif_true hg _ _)
--@def
def spSumLen : List (List Int) → Nat
  | [] => 0
  | p :: ps => p.length + spSumLen ps
def spJoin : List (List Int) → List Int
  | [] => []
  | p :: ps => p ++ spJoin ps
def spRaw (b : List Int) (most : Int) (ps : List (List Int)) : Int × List Int := if most - b.length < spSumLen ps then (10, b) else (0, b ++ spJoin ps)
abbrev iowRaw : Io := ⟨[.ptr 0 0, .dat (.sl 28 bs) false false], [oWr], [], [dI], none⟩
def FwRaw (d : iowRaw.In) : Tr iowRaw.Res :=
  .ite (spWok d.2.1.1 d.2.1.2.1 && decide (spSumLen d.1.2.1 ≤ 4294960000)) (.ret (.ret (((spRaw d.2.1.1 d.2.1.2.1 d.1.2.1).1, ()), (((spRaw d.2.1.1 d.2.1.2.1 d.1.2.1).2, (d.2.1.2.1, ())), ())))) .no
abbrev cswRaw : List (Nat × Hc) := [(177, ioHd iowRoom FwRoom)]
def hdwRaw : Hd := hdT cswRaw
abbrev lowRaw_4 : Lo := ⟨⟨[.one (.ptr 0 0), .one (.hol (.sl 28 (Ty.sl 5 (Ty.int IntKind.u8)))), .any, .any, .any, .one (.hol (.int IntKind.i64)), .any, .any, .any, .any, .one (.hol (.sl 28 (Ty.sl 5 (Ty.int IntKind.u8)))), .one (.hol (.int IntKind.i64)), .one (.hol (.int IntKind.i64)), .any, .any, .any, .any, .any, .any, .any, .any, .any, .any, .any, .any, .any, .any, .any, .any, .any, .any, .any, .any, .any, .any, .any, .any, .any, .any, .any, .any], [some [.onl 5 (Ty.int IntKind.u8) 2, .hol (.int IntKind.i64)]]⟩, [(.exit 0, ⟨[.one (.ptr 0 0), .one (.hol (.sl 28 (Ty.sl 5 (Ty.int IntKind.u8)))), .any, .any, .any, .one (.hol (.int IntKind.i64)), .any, .any, .any, .any, .any, .any, .any, .any, .any, .any, .any, .any, .any, .any, .any, .any, .any, .any, .any, .any, .any, .any, .any, .any, .any, .any, .any, .any, .any, .any, .any, .any, .any, .any, .any], [some [.onl 5 (Ty.int IntKind.u8) 2, .hol (.int IntKind.i64)]]⟩)]⟩
-- FwRaw_4 : lowRaw_4.st.den → Tr (DenX lowRaw_4.xs) | ((h3, (h4, (h5, (h6, (h7, ()))))), ((h8, (h9, ())), ()))
abbrev lowRaw_11 : Lo := ⟨⟨[.one (.ptr 0 0), .any, .any, .any, .any, .any, .any, .any, .any, .any, .any, .any, .any, .any, .any, .any, .any, .any, .any, .any, .any, .any, .any, .any, .any, .one (.hol (.sl 28 (Ty.sl 5 (Ty.int IntKind.u8)))), .one (.hol (.int IntKind.i64)), .one (.hol (.int IntKind.i64)), .any, .any, .any, .any, .any, .any, .any, .any, .any, .any, .any, .any, .any], [some [.onl 5 (Ty.int IntKind.u8) 2, .hol (.int IntKind.i64)]]⟩, [(.exit 2, ⟨[.any, .any, .any, .any, .any, .any, .any, .any, .any, .any, .any, .any, .any, .any, .any, .any, .any, .any, .any, .any, .any, .any, .any, .any, .any, .any, .any, .any, .any, .any, .any, .any, .any, .any, .any, .any, .any, .any, .any, .any, .any], [some [.onl 5 (Ty.int IntKind.u8) 2, .hol (.int IntKind.i64)]]⟩)]⟩
-- FwRaw_11 : lowRaw_11.st.den → Tr (DenX lowRaw_11.xs) | ((h25, (h26, (h27, ()))), ((h28, (h29, ())), ()))
def FwRaw_4 (d : lowRaw_4.st.den) : Tr (DenX lowRaw_4.xs) :=
  .ite (decide (d.1.2.1 = 0) && (decide (d.1.2.2.2.2.1 = 0) && (decide (d.1.2.2.2.1 = (d.1.2.2.1.length : Int)) && decide (spSumLen d.1.2.2.1 ≤ 4294960000)))) (.ret (.ret ((), ((d.1.1, ((spSumLen d.1.2.2.1 : Int), ())), (d.2.1, ()))))) .no
def FwRaw_11 (d : lowRaw_11.st.den) : Tr (DenX lowRaw_11.xs) :=
  .ite (decide (d.1.2.2.1 = 0) && (decide (d.1.2.1 = (d.1.1.length : Int)) && decide (d.2.1.1.length + spSumLen d.1.1 ≤ 4294967296))) (.ret (.ret ((), ((), ((d.2.1.1 ++ spJoin d.1.1, (d.2.1.2.1, ())), ()))))) .no
def lpwRaw : Lp := lpT [(4, loHd lowRaw_4 FwRaw_4), (11, loHd lowRaw_11 FwRaw_11)]
def stepwRaw_4 {R : Type} (h3 : List bs.den) (h4 : Int) (h5 : List bs.den) (h6 : Int) (h7 : Int) (h8 : List Int) (h9 : Int) (next : List bs.den → Int → List bs.den → Int → Int → List Int → Int → Option R) (out : DenX lowRaw_4.xs → Option R) : Option R := bif decide (h7 < h6) then bif decide (0 ≤ h7) && decide (h7 < (↑h5.length : Int)) then next (h3) (IntKind.i64.wrap (h4 + (↑(List.length (h5.getD h7.toNat [])) : Int))) (h5) (h6) (IntKind.i64.wrap (h7 + 1)) (h8) (h9) else none else out (.ret ((), ((h3, (h4, ())), ((h8, (h9, ())), ()))))
def itwRaw_4 (n : Nat) (h3 : List bs.den) (h4 : Int) (h5 : List bs.den) (h6 : Int) (h7 : Int) (h8 : List Int) (h9 : Int) : Option (DenX lowRaw_4.xs) := lpN tt hdwRaw dr lpwRaw 1 Go.Proofs.Tryz.f142 (topL Go.Proofs.Tryz.f142 0) n (lowRaw_4.st.mk' ((h3, (h4, (h5, (h6, (h7, ()))))), ((h8, (h9, ())), ()))) (decX lowRaw_4.xs)
theorem slwRaw_4 (n : Nat) (h3 : List bs.den) (h4 : Int) (h5 : List bs.den) (h6 : Int) (h7 : Int) (h8 : List Int) (h9 : Int) : itwRaw_4 (n + 1) h3 h4 h5 h6 h7 h8 h9 = stepwRaw_4 h3 h4 h5 h6 h7 h8 h9 (itwRaw_4 n) some := by kernel_rfl
def stepwRaw_11 {R : Type} (h25 : List (Ty.sl 5 (Ty.int IntKind.u8)).den) (h26 : Int) (h27 : Int) (h28 : List Int) (h29 : Int) (next : List (Ty.sl 5 (Ty.int IntKind.u8)).den → Int → Int → List Int → Int → Option R) (out : DenX lowRaw_11.xs → Option R) : Option R := bif decide (h27 < h26) then bif decide (0 ≤ h27) && decide (h27 < (↑h25.length : Int)) then bif decide (h28.length + List.length (h25.getD h27.toNat []) ≤ 4294967296) then next (h25) (h26) (IntKind.i64.wrap (h27 + 1)) (h28 ++ h25.getD h27.toNat []) (h29) else none else none else out (.ret ((), ((), ((h28, (h29, ())), ()))))
def itwRaw_11 (n : Nat) (h25 : List (Ty.sl 5 (Ty.int IntKind.u8)).den) (h26 : Int) (h27 : Int) (h28 : List Int) (h29 : Int) : Option (DenX lowRaw_11.xs) := lpN tt hdwRaw dr lpwRaw 1 Go.Proofs.Tryz.f142 (topL Go.Proofs.Tryz.f142 1) n (lowRaw_11.st.mk' ((h25, (h26, (h27, ()))), ((h28, (h29, ())), ()))) (decX lowRaw_11.xs)
theorem slwRaw_11 (n : Nat) (h25 : List (Ty.sl 5 (Ty.int IntKind.u8)).den) (h26 : Int) (h27 : Int) (h28 : List Int) (h29 : Int) : itwRaw_11 (n + 1) h25 h26 h27 h28 h29 = stepwRaw_11 h25 h26 h27 h28 h29 (itwRaw_11 n) some := by kernel_rfl
theorem spSumLen_drop {ps : List (List Int)} {i : Nat} (h : i < ps.length) : spSumLen (ps.drop i) = ps[i].length + spSumLen (ps.drop (i + 1)) := by rw [List.drop_eq_getElem_cons h]; rfl
theorem spJoin_drop {ps : List (List Int)} {i : Nat} (h : i < ps.length) : spJoin (ps.drop i) = ps[i] ++ spJoin (ps.drop (i + 1)) := by rw [List.drop_eq_getElem_cons h]; rfl
theorem loopwRaw_4 (ps0 ps : List (List Int)) (b : List Int) (m : Int) (hl : ps.length ≤ maxLen) : ∀ (k i : Nat) (s : Nat), ps.length < i + k → i ≤ ps.length → s + spSumLen (ps.drop i) ≤ 4294960000 →
    itwRaw_4 k ps0 s ps (ps.length : Int) i b m = some (.ret ((), ((ps0, (((s + spSumLen (ps.drop i) : Nat) : Int), ())), ((b, (m, ())), ())))) := by
  intro k
  induction k with
  | zero => intro i s h; omega
  | succ k ih =>
    intro i s h1 h2 h3
    rw [slwRaw_4]
    unfold stepwRaw_4
    by_cases hi : i < ps.length
    · rw [spSumLen_drop hi] at h3 ⊢
      have e : List.getD ps (i : Int).toNat [] = ps[i] := by simp only [Int.toNat_natCast, getD_lt hi]
      rw [bif_true (by simpa using hi), bif_true (by simpa using hi), e, wrap_succ hi hl, wrap_i64 (n := (s : Int) + (List.length (α := Int) ps[i] : Int)) (by omega) (by omega)]
      have e2 : (s : Int) + (List.length (α := Int) ps[i] : Int) = ((s + ps[i].length : Nat) : Int) := by omega
      rw [e2, ih (i + 1) (s + ps[i].length) (by omega) (by omega) (by omega), Nat.add_assoc]
    · rw [bif_false (by simp; omega), List.drop_of_length_le (by omega)]
      rfl
theorem loopwRaw_11 (ps : List (List Int)) (m : Int) (hl : ps.length ≤ maxLen) : ∀ (k i : Nat) (b : List Int), ps.length < i + k → i ≤ ps.length → b.length + spSumLen (ps.drop i) ≤ 4294967296 →
    itwRaw_11 k ps (ps.length : Int) i b m = some (.ret ((), ((), ((b ++ spJoin (ps.drop i), (m, ())), ())))) := by
  intro k
  induction k with
  | zero => intro i b h; omega
  | succ k ih =>
    intro i b h1 h2 h3
    rw [slwRaw_11]
    unfold stepwRaw_11
    by_cases hi : i < ps.length
    · rw [spSumLen_drop hi] at h3
      rw [spJoin_drop hi]
      have e : List.getD ps (i : Int).toNat [] = ps[i] := by simp only [Int.toNat_natCast, getD_lt hi]
      rw [bif_true (by simpa using hi), bif_true (by simpa using hi), e, wrap_succ hi hl, bif_true (by simp; omega), ih (i + 1) _ (by omega) (by omega) (by simp; omega), List.append_assoc]
    · rw [bif_false (by simp; omega), List.drop_of_length_le (by omega)]
      simp [spJoin]
def bodywRaw (a0 : List bs.den) (a1 : List Int) (a2 : Int) : Option iowRaw.Res := (FwRaw_4 ((a0, (0, (a0, ((↑a0.length : Int), (0, ()))))), ((a1, (a2, ())), ()))).run fun y => match y with | .ret ((), ((x21, x22, ()), (x23, x24, ()), ())) => (bif decide (IntKind.i64.wrap (x24 - (↑x23.length : Int)) < x22) then some (Out.ret ((10, ()), (x23, x24, ()), ())) else (FwRaw_11 ((x21, ((↑x21.length : Int), (0, ()))), ((x23, (x24, ())), ()))).run fun y => match y with | .ret ((), ((), (x37, x38, ()), ())) => (some (Out.ret ((0, ()), (x37, x38, ()), ()))))
theorem runwRaw (a0 : List bs.den) (a1 : List Int) (a2 : Int) : Io.run tt hdwRaw dr lpwRaw iowRaw Go.Proofs.Tryz.f142 (((), a0, ()), (a1, a2, ()), ()) = bodywRaw a0 a1 a2 := by kernel_rfl
theorem okwRaw : HcOk prog 142 (ioHd iowRaw FwRaw) := by
  refine fn_sound (n := 400) hm (cs := cswRaw) (.cons okwRoom .nil) (lp := lpwRaw) (fn := Go.Proofs.Tryz.f142) (by kernel_rfl) (by kernel_rfl) (by kernel_rfl) iowRaw (.step (h0 := loHd lowRaw_4 FwRaw_4) (by kernel_rfl) (loop_sound (n := 400) hm (cs := cswRaw) (.cons okwRoom .nil) (lp := lpwRaw) (fn := Go.Proofs.Tryz.f142) (.done (by kernel_rfl)) lowRaw_4 FwRaw_4 ?_) (.step (h0 := loHd lowRaw_11 FwRaw_11) (by kernel_rfl) (loop_sound (n := 400) hm (cs := cswRaw) (.cons okwRoom .nil) (lp := lpwRaw) (fn := Go.Proofs.Tryz.f142) (.done (by kernel_rfl)) lowRaw_11 FwRaw_11 ?_) (.done (by kernel_rfl)))) FwRaw ?_
  · rintro ⟨⟨ps0, s, ps, n, i, ⟨⟩⟩, ⟨⟨b, m, ⟨⟩⟩, ⟨⟩⟩⟩ y hw hy
    obtain ⟨hg, hy⟩ := Tr.guard hy
    simp only [Bool.and_eq_true, decide_eq_true_eq] at hg
    obtain ⟨rfl, rfl, rfl, h4⟩ := hg
    refine ⟨ps.length + 1, (loopwRaw_4 ps0 ps b m hw.1.2.2.1.1 _ 0 0 (by omega) (by omega) (by simpa using h4)).trans ?_⟩
    rw [← hy, Nat.zero_add]; rfl
  · rintro ⟨⟨ps, n, i, ⟨⟩⟩, ⟨⟨b, m, ⟨⟩⟩, ⟨⟩⟩⟩ y hw hy
    obtain ⟨hg, hy⟩ := Tr.guard hy
    simp only [Bool.and_eq_true, decide_eq_true_eq] at hg
    obtain ⟨rfl, rfl, h4⟩ := hg
    refine ⟨ps.length + 1, (loopwRaw_11 ps m hw.1.1.1 _ 0 b (by omega) (by omega) (by simpa using h4)).trans ?_⟩
    rw [← hy]; rfl
  · rintro ⟨⟨⟨⟩, (ps : List (List Int)), ⟨⟩⟩, ⟨⟨(b : List Int), (m : Int), ⟨⟩⟩, ⟨⟩⟩⟩ out hw ho
    obtain ⟨hg, ho⟩ := Tr.guard ho
    simp only [spWok, Bool.and_eq_true, decide_eq_true_eq] at hg
    obtain ⟨⟨h1, h2, h3⟩, h4⟩ := hg
    have h4 : spSumLen ps ≤ 4294960000 := h4
    cases ho
    refine (runwRaw ps b m).trans ?_
    unfold bodywRaw
    have c1 : (decide ((0 : Int) = 0) && (decide ((0 : Int) = 0) && (decide ((ps.length : Int) = (ps.length : Int)) && decide (spSumLen ps ≤ 4294960000)))) = true := by simp; omega
    have e1 : FwRaw_4 ((ps, (0, (ps, ((ps.length : Int), (0, ()))))), ((b, (m, ())), ())) = .ite true (.ret (.ret ((), ((ps, ((spSumLen ps : Int), ())), ((b, (m, ())), ()))))) .no := congrArg (fun c => Tr.ite c _ _) c1
    rw [e1]
    simp only [Tr.run, cond_true]
    rw [wrap_i64 (n := m - (b.length : Int)) (by omega) (by omega)]
    unfold spRaw
    by_cases hl : m - (b.length : Int) < (spSumLen ps : Int)
    · rw [bif_true (by simpa using hl), if_pos hl]
    · rw [bif_false (by simpa using hl), if_neg hl]
      have c2 : (decide ((0 : Int) = 0) && (decide ((ps.length : Int) = (ps.length : Int)) && decide (b.length + spSumLen ps ≤ 4294967296))) = true := by simp; omega
      have e2 : FwRaw_11 ((ps, ((ps.length : Int), (0, ()))), ((b, (m, ())), ())) = .ite true (.ret (.ret ((), ((), ((b ++ spJoin ps, (m, ())), ()))))) .no := congrArg (fun c => Tr.ite c _ _) c2
      rw [e2]
      rfl
end
end Go.Proofs.YtjpeefegeobgfaaGreat.Sym
namespace Go.Proofs.YtjpeefegeobgfaaGreat.Sym
open Go
set_option linter.unusedSimpArgs false
set_option linter.unusedVariables false
noncomputable section
abbrev oRr : List Sh := [dL, dI]
abbrev d64s : Sh := .dat (.int .i64) false false
def spBEv (l : List Int) : Int := l.foldl (fun v c => v * 256 + c) 0
def spRd (b : List Int) (p : Int) (n : Nat) : Int × (Int × Int) := if (b.length : Int) - p < n then (0, (p, 1)) else (spBEv ((b.drop p.toNat).take n), (p + n, 0))
def spRok (b : List Int) (p : Int) : Bool := decide (b.length ≤ 4294960000) && (decide (0 ≤ p) && decide (p ≤ (b.length : Int)))
def spSkip (b : List Int) (p n : Int) : Int × Int := if n < 0 then (p, 3) else if (b.length : Int) - p < n then (p, 1) else (p + n, 0)
def spTakeB (b : List Int) (p n : Int) : List Int × (Int × Int) := if n < 0 then ([], (p, 3)) else if (b.length : Int) - p < n then ([], (p, 1)) else ((b.drop p.toNat).take n.toNat, (p + n, 0))
def spEnd (b : List Int) (p : Int) : Int := if p < (b.length : Int) then 2 else 0
abbrev iordLeft : Io := ⟨[.ptr 0 0], [oRr], [], [dI], none⟩
def FrdLeft (d : iordLeft.In) : Tr iordLeft.Res := .ret (.ret ((IntKind.i64.wrap ((d.2.1.1.length : Int) - d.2.1.2.1), ()), ((d.2.1.1, (d.2.1.2.1, ())), ())))
abbrev csrdLeft : List (Nat × Hc) := []
def hdrdLeft : Hd := hdT csrdLeft
def lprdLeft : Lp := lpT []
def bodyrdLeft (a0 : List Int) (a1 : Int) : Option iordLeft.Res := some (Out.ret ((IntKind.i64.wrap ((↑a0.length : Int) - a1), ()), (a0, a1, ()), ()))
theorem runrdLeft (a0 : List Int) (a1 : Int) : Io.run tt hdrdLeft dr lprdLeft iordLeft Go.Proofs.Tryz.f192 (((), ()), (a0, a1, ()), ()) = bodyrdLeft a0 a1 := by kernel_rfl
theorem okrdLeft : HcOk prog 192 (ioHd iordLeft FrdLeft) := by
  refine fn_sound (n := 400) hm (cs := csrdLeft) HcsOk.nil (lp := lprdLeft) (fn := Go.Proofs.Tryz.f192) (by kernel_rfl) (by kernel_rfl) (by kernel_rfl) iordLeft (.done (by kernel_rfl)) FrdLeft ?_
  rintro ⟨⟨⟨⟩, ⟨⟩⟩, ⟨⟨(b : List Int), (p : Int), ⟨⟩⟩, ⟨⟩⟩⟩ out hw ho
  rw [← ho]
  exact runrdLeft b p
abbrev iordnumber : Io := ⟨[.ptr 0 0, dI], [oRr], [], [d64u, dI], none⟩
def Frdnumber (d : iordnumber.In) : Tr iordnumber.Res :=
  .ite (spRok d.2.1.1 d.2.1.2.1 && (decide ((0 : Int) ≤ d.1.2.1) && decide (d.1.2.1 ≤ (8 : Int)))) (.ret (.ret (((spRd d.2.1.1 d.2.1.2.1 d.1.2.1.toNat).1, ((spRd d.2.1.1 d.2.1.2.1 d.1.2.1.toNat).2.2, ())), ((d.2.1.1, ((spRd d.2.1.1 d.2.1.2.1 d.1.2.1.toNat).2.1, ())), ())))) .no
abbrev csrdnumber : List (Nat × Hc) := [(192, ioHd iordLeft FrdLeft)]
def hdrdnumber : Hd := hdT csrdnumber
abbrev lordnumber_6 : Lo := ⟨⟨[.one (.ptr 0 0), .one (.hol (.int IntKind.i64)), .any, .any, .any, .any, .one (.hol (.int IntKind.u64)), .any, .any, .any, .any, .any, .any, .any, .any, .any, .any, .any, .any, .any, .any, .any, .any, .any, .any, .any, .any, .one (.hol (.sl 5 (Ty.int IntKind.u8))), .one (.hol (.int IntKind.i64)), .one (.hol (.int IntKind.i64)), .any, .any, .any, .any, .any, .any, .any, .any, .any, .any, .any, .any, .any, .any, .any, .any, .any, .any], [some [.hol (.sl 5 (Ty.int IntKind.u8)), .hol (.int IntKind.i64)]]⟩, [(.exit 0, ⟨[.one (.ptr 0 0), .one (.hol (.int IntKind.i64)), .any, .any, .any, .any, .one (.hol (.int IntKind.u64)), .any, .any, .any, .any, .any, .any, .any, .any, .any, .any, .any, .any, .any, .any, .any, .any, .any, .any, .any, .any, .any, .any, .any, .any, .any, .any, .any, .any, .any, .any, .any, .any, .any, .any, .any, .any, .any, .any, .any, .any, .any], [some [.hol (.sl 5 (Ty.int IntKind.u8)), .hol (.int IntKind.i64)]]⟩)]⟩
-- Frdnumber_6 : lordnumber_6.st.den → Tr (DenX lordnumber_6.xs) | ((h3, (h4, (h5, (h6, (h7, ()))))), ((h8, (h9, ())), ()))
def Frdnumber_6 (d : lordnumber_6.st.den) : Tr (DenX lordnumber_6.xs) :=
  .ite (decide (d.1.2.1 = 0) && (decide (d.1.2.2.2.2.1 = 0) && (decide (d.1.2.2.2.1 = (d.1.2.2.1.length : Int)) && decide (d.1.2.2.1.length ≤ 8)))) (.ret (.ret ((), ((d.1.1, (spBEv d.1.2.2.1, ())), (d.2.1, ()))))) .no
def lprdnumber : Lp := lpT [(6, loHd lordnumber_6 Frdnumber_6)]
def steprdnumber_6 {R : Type} (h3 : Int) (h4 : Int) (h5 : List Int) (h6 : Int) (h7 : Int) (h8 : List Int) (h9 : Int) (next : Int → Int → List Int → Int → Int → List Int → Int → Option R) (out : DenX lordnumber_6.xs → Option R) : Option R := bif decide (h7 < h6) then bif decide (0 ≤ h7) && decide (h7 < (↑h5.length : Int)) then next (h3) (spOr IntKind.u64 (spShl IntKind.u64 h4 8) (IntKind.u64.wrap (h5.getD h7.toNat 0))) (h5) (h6) (IntKind.i64.wrap (h7 + 1)) (h8) (h9) else none else out (.ret ((), ((h3, (h4, ())), ((h8, (h9, ())), ()))))
def itrdnumber_6 (n : Nat) (h3 : Int) (h4 : Int) (h5 : List Int) (h6 : Int) (h7 : Int) (h8 : List Int) (h9 : Int) : Option (DenX lordnumber_6.xs) := lpN tt hdrdnumber dr lprdnumber 1 Go.Proofs.Tryz.f179 (topL Go.Proofs.Tryz.f179 0) n (lordnumber_6.st.mk' ((h3, (h4, (h5, (h6, (h7, ()))))), ((h8, (h9, ())), ()))) (decX lordnumber_6.xs)
theorem slrdnumber_6 (n : Nat) (h3 : Int) (h4 : Int) (h5 : List Int) (h6 : Int) (h7 : Int) (h8 : List Int) (h9 : Int) : itrdnumber_6 (n + 1) h3 h4 h5 h6 h7 h8 h9 = steprdnumber_6 h3 h4 h5 h6 h7 h8 h9 (itrdnumber_6 n) some := by kernel_rfl
theorem or_byte {v c : Int} (h0 : 0 ≤ v) (h1 : v < 72057594037927936) (h2 : 0 ≤ c) (h3 : c ≤ 255) : spOr .u64 (spShl .u64 v 8) (IntKind.u64.wrap c) = v * 256 + c := by
  have e1 : spShl .u64 v 8 = v * 256 := by
    show IntKind.wrap .u64 (v * 2 ^ 8) = _
    rw [show v * 2 ^ 8 = v * 256 by omega]
    exact wrap_id (k := .u64) (by simp [inR, IntKind.min, IntKind.max, IntKind.signed, IntKind.bits]; omega)
  have e0 : IntKind.u64.wrap c = c := wrap_id (k := .u64) (by simp [inR, IntKind.min, IntKind.max, IntKind.signed, IntKind.bits]; omega)
  rw [e1, e0]
  obtain ⟨v, rfl⟩ := toNat_of h0
  obtain ⟨c, rfl⟩ := toNat_of h2
  have e4 := Nat.two_pow_add_eq_or_of_lt (show c < 2 ^ 8 by omega) v
  show IntKind.wrap .u64 ((BitVec.ofInt 64 ((v : Int) * 256) ||| BitVec.ofInt 64 (c : Int)).toNat : Int) = _
  have e2 : (BitVec.ofInt 64 (c : Int)).toNat = c := by rw [BitVec.toNat_ofInt]; omega
  have e3 : (BitVec.ofInt 64 ((v : Int) * 256)).toNat = 2 ^ 8 * v := by rw [BitVec.toNat_ofInt]; omega
  rw [BitVec.toNat_or, e2, e3, ← e4]
  refine (wrap_id (k := .u64) ?_).trans ?_
  · simp [inR, IntKind.min, IntKind.max, IntKind.signed, IntKind.bits]; omega
  · omega
theorem spBEv_append (l : List Int) (c : Int) : spBEv (l ++ [c]) = spBEv l * 256 + c := by simp [spBEv]
theorem fold_bound : ∀ (l : List Int) (v : Int), (∀ c ∈ l, 0 ≤ c ∧ c ≤ 255) → 0 ≤ v → 0 ≤ l.foldl (fun v c => v * 256 + c) v ∧ l.foldl (fun v c => v * 256 + c) v < (v + 1) * 256 ^ l.length
  | [], v, _, h0 => ⟨h0, by simp; omega⟩
  | c :: l, v, h, h0 => by
    obtain ⟨h3, h4⟩ := h c (by simp)
    obtain ⟨h1, h2⟩ := fold_bound l (v * 256 + c) (fun d hd => h d (by simp [hd])) (by omega)
    refine ⟨h1, Int.lt_of_lt_of_le h2 ?_⟩
    rw [List.length_cons, Int.pow_succ, Int.mul_comm (256 ^ l.length) 256, ← Int.mul_assoc]
    exact Int.mul_le_mul_of_nonneg_right (by omega) (Int.le_of_lt (Int.pow_pos (by decide)))
theorem spBEv_bound (l : List Int) (h : ∀ c ∈ l, 0 ≤ c ∧ c ≤ 255) : 0 ≤ spBEv l ∧ spBEv l < 256 ^ l.length := by
  have := fold_bound l 0 h (Int.le_refl _)
  simpa [spBEv] using this
theorem looprdnumber (n : Int) (l b : List Int) (p : Int) (hl : l.length ≤ 8) (hr : ∀ c ∈ l, 0 ≤ c ∧ c ≤ 255) : ∀ (k i : Nat), l.length < i + k → i ≤ l.length →
    itrdnumber_6 k n (spBEv (l.take i)) l (l.length : Int) i b p = some (.ret ((), ((n, (spBEv l, ())), ((b, (p, ())), ())))) := by
  intro k
  induction k with
  | zero => intro i h; omega
  | succ k ih =>
    intro i h1 h2
    rw [slrdnumber_6]
    unfold steprdnumber_6
    by_cases hi : i < l.length
    · have hc := hr l[i] (List.getElem_mem hi)
      have hb := spBEv_bound (l.take i) fun c hc => hr c (List.mem_of_mem_take hc)
      have hlt : (256 : Int) ^ (l.take i).length ≤ 72057594037927936 := by
        rw [List.length_take, show min i l.length = i by omega]
        have hi7 : i ≤ 7 := by omega
        match i, hi7 with
        | 0, _ => decide
        | 1, _ => decide
        | 2, _ => decide
        | 3, _ => decide
        | 4, _ => decide
        | 5, _ => decide
        | 6, _ => decide
        | 7, _ => decide
      have e1 : List.getD l (i : Int).toNat 0 = l[i] := by simp only [Int.toNat_natCast, getD_lt hi]
      rw [bif_true (by simpa using hi), bif_true (by simpa using hi), e1, or_byte hb.1 (by omega) hc.1 hc.2, ← spBEv_append, ← List.take_succ_eq_append_getElem hi, wrap_succ hi (by rw [maxLen_eq]; omega), ih (i + 1) (by omega) (by omega)]
    · rw [bif_false (by simp; omega), List.take_of_length_le (by omega)]
def bodyrdnumber (a0 : Int) (a1 : List Int) (a2 : Int) : Option iordnumber.Res := bif decide (IntKind.i64.wrap ((↑a1.length : Int) - a2) < a0) then some (Out.ret ((0, 1, ()), (a1, a2, ()), ())) else bif decide (0 ≤ a2) && (decide (a2 ≤ IntKind.i64.wrap (a2 + a0)) && decide (IntKind.i64.wrap (a2 + a0) ≤ (↑a1.length : Int))) then (Frdnumber_6 ((a0, (0, (List.drop a2.toNat (List.take (IntKind.i64.wrap (a2 + a0)).toNat a1), ((↑(List.drop a2.toNat (List.take (IntKind.i64.wrap (a2 + a0)).toNat a1)).length : Int), (0, ()))))), ((a1, (a2, ())), ()))).run fun y => match y with | .ret ((), ((x21, x22, ()), (x23, x24, ()), ())) => (some (Out.ret ((x22, 0, ()), (x23, IntKind.i64.wrap (x24 + x21), ()), ()))) else none
theorem runrdnumber (a0 : Int) (a1 : List Int) (a2 : Int) : Io.run tt hdrdnumber dr lprdnumber iordnumber Go.Proofs.Tryz.f179 (((), a0, ()), (a1, a2, ()), ()) = bodyrdnumber a0 a1 a2 := by kernel_rfl
theorem bs_range {b : List Int} (h : Ty.wf bs b) : ∀ c ∈ b, 0 ≤ c ∧ c ≤ 255 := fun c hc => by
  have := h.2 c hc
  simpa [Ty.wf, inR, IntKind.min, IntKind.max, IntKind.signed, IntKind.bits] using this
theorem okrdnumber : HcOk prog 179 (ioHd iordnumber Frdnumber) := by
  refine fn_sound (n := 400) hm (cs := csrdnumber) (.cons okrdLeft .nil) (lp := lprdnumber) (fn := Go.Proofs.Tryz.f179) (by kernel_rfl) (by kernel_rfl) (by kernel_rfl) iordnumber (.step (h0 := loHd lordnumber_6 Frdnumber_6) (by kernel_rfl) (loop_sound (n := 400) hm (cs := csrdnumber) (.cons okrdLeft .nil) (lp := lprdnumber) (fn := Go.Proofs.Tryz.f179) (.done (by kernel_rfl)) lordnumber_6 Frdnumber_6 ?_) (.done (by kernel_rfl))) Frdnumber ?_
  · rintro ⟨⟨(n : Int), (v : Int), (l : List Int), (m : Int), (i : Int), ⟨⟩⟩, ⟨⟨(b : List Int), (p : Int), ⟨⟩⟩, ⟨⟩⟩⟩ y hw hy
    obtain ⟨hg, hy⟩ := Tr.guard hy
    simp only [Bool.and_eq_true, decide_eq_true_eq] at hg
    obtain ⟨rfl, rfl, rfl, h4⟩ := hg
    refine ⟨l.length + 1, (looprdnumber n l b p h4 (bs_range hw.1.2.2.1) _ 0 (by omega) (by omega)).trans ?_⟩
    rw [← hy]; rfl
  · rintro ⟨⟨⟨⟩, (n : Int), ⟨⟩⟩, ⟨⟨(b : List Int), (p : Int), ⟨⟩⟩, ⟨⟩⟩⟩ out hw ho
    obtain ⟨hg, ho⟩ := Tr.guard ho
    simp only [spRok, Bool.and_eq_true, decide_eq_true_eq] at hg
    obtain ⟨⟨h1, h2, h3⟩, h4, h5⟩ := hg
    have h1 : b.length ≤ 4294960000 := h1
    have h2 : (0 : Int) ≤ p := h2
    have h3 : p ≤ (b.length : Int) := h3
    have h4 : (0 : Int) ≤ n := h4
    have h5 : n ≤ (8 : Int) := h5
    cases ho
    refine (runrdnumber n b p).trans ?_
    show _ = some (Out.ret (((spRd b p n.toNat).1, ((spRd b p n.toNat).2.2, ())), ((b, ((spRd b p n.toNat).2.1, ())), ())))
    unfold bodyrdnumber
    rw [wrap_i64 (n := (b.length : Int) - p) (by omega) (by omega), wrap_i64 (n := p + n) (by omega) (by omega)]
    unfold spRd
    by_cases hl : (b.length : Int) - p < n
    · rw [bif_true (by simpa using hl), if_pos (by omega)]
    · have e0 : List.drop p.toNat (List.take (p + n).toNat b) = (b.drop p.toNat).take n.toNat := by rw [List.drop_take, show (p + n).toNat - p.toNat = n.toNat by omega]
      rw [bif_false (by simpa using hl), if_neg (by omega), bif_true (by simp; omega), e0]
      have hl8 : ((b.drop p.toNat).take n.toNat).length ≤ 8 := by simp; omega
      have e1 : Frdnumber_6 ((n, (0, ((b.drop p.toNat).take n.toNat, ((((b.drop p.toNat).take n.toNat).length : Int), (0, ()))))), ((b, (p, ())), ())) = .ite true (.ret (.ret ((), ((n, (spBEv ((b.drop p.toNat).take n.toNat), ())), ((b, (p, ())), ()))))) .no :=
        congrArg (fun c => Tr.ite c _ _) (show (decide ((0 : Int) = 0) && (decide ((0 : Int) = 0) && (decide ((((b.drop p.toNat).take n.toNat).length : Int) = (((b.drop p.toNat).take n.toNat).length : Int)) && decide (((b.drop p.toNat).take n.toNat).length ≤ 8)))) = true by simp; omega)
      rw [e1]
      simp only [Tr.run, cond_true]
      rw [wrap_i64 (n := p + n) (by omega) (by omega), show ((n.toNat : Nat) : Int) = n by omega]
abbrev iordI16 : Io := ⟨[.ptr 0 0], [oRr], [], [d16, dI], none⟩
def FrdI16 (d : iordI16.In) : Tr iordI16.Res :=
  .ite (spRok d.2.1.1 d.2.1.2.1) (.ret (.ret ((IntKind.i16.wrap (spRd d.2.1.1 d.2.1.2.1 2).1, ((spRd d.2.1.1 d.2.1.2.1 2).2.2, ())), ((d.2.1.1, ((spRd d.2.1.1 d.2.1.2.1 2).2.1, ())), ())))) .no
abbrev csrdI16 : List (Nat × Hc) := [(179, ioHd iordnumber Frdnumber)]
def hdrdI16 : Hd := hdT csrdI16
def lprdI16 : Lp := lpT []
def bodyrdI16 (a0 : List Int) (a1 : Int) : Option iordI16.Res := bif spRok a0 a1 && (decide (0 ≤ 2) && decide (2 ≤ 8)) then some (Out.ret ((IntKind.i16.wrap (spRd a0 a1 (Int.toNat 2)).fst, (spRd a0 a1 (Int.toNat 2)).snd.snd, ()), (a0, (spRd a0 a1 (Int.toNat 2)).snd.fst, ()), ())) else none
theorem runrdI16 (a0 : List Int) (a1 : Int) : Io.run tt hdrdI16 dr lprdI16 iordI16 Go.Proofs.Tryz.f152 (((), ()), (a0, a1, ()), ()) = bodyrdI16 a0 a1 := by kernel_rfl
theorem okrdI16 : HcOk prog 152 (ioHd iordI16 FrdI16) := by
  refine fn_sound (n := 400) hm (cs := csrdI16) (.cons okrdnumber .nil) (lp := lprdI16) (fn := Go.Proofs.Tryz.f152) (by kernel_rfl) (by kernel_rfl) (by kernel_rfl) iordI16 (.done (by kernel_rfl)) FrdI16 ?_
  rintro ⟨⟨⟨⟩, ⟨⟩⟩, ⟨⟨(b : List Int), (p : Int), ⟨⟩⟩, ⟨⟩⟩⟩ out hw ho
  obtain ⟨hg, ho⟩ := Tr.guard ho
  have hg : spRok b p = true := hg
  cases ho
  refine (runrdI16 b p).trans ?_
  unfold bodyrdI16
  rw [bif_true (by simp [hg])]
  rfl
abbrev iordI32 : Io := ⟨[.ptr 0 0], [oRr], [], [dS32, dI], none⟩
def FrdI32 (d : iordI32.In) : Tr iordI32.Res :=
  .ite (spRok d.2.1.1 d.2.1.2.1) (.ret (.ret ((IntKind.i32.wrap (spRd d.2.1.1 d.2.1.2.1 4).1, ((spRd d.2.1.1 d.2.1.2.1 4).2.2, ())), ((d.2.1.1, ((spRd d.2.1.1 d.2.1.2.1 4).2.1, ())), ())))) .no
abbrev csrdI32 : List (Nat × Hc) := [(179, ioHd iordnumber Frdnumber)]
def hdrdI32 : Hd := hdT csrdI32
def lprdI32 : Lp := lpT []
def bodyrdI32 (a0 : List Int) (a1 : Int) : Option iordI32.Res := bif spRok a0 a1 && (decide (0 ≤ 4) && decide (4 ≤ 8)) then some (Out.ret ((IntKind.i32.wrap (spRd a0 a1 (Int.toNat 4)).fst, (spRd a0 a1 (Int.toNat 4)).snd.snd, ()), (a0, (spRd a0 a1 (Int.toNat 4)).snd.fst, ()), ())) else none
theorem runrdI32 (a0 : List Int) (a1 : Int) : Io.run tt hdrdI32 dr lprdI32 iordI32 Go.Proofs.Tryz.f149 (((), ()), (a0, a1, ()), ()) = bodyrdI32 a0 a1 := by kernel_rfl
theorem okrdI32 : HcOk prog 149 (ioHd iordI32 FrdI32) := by
  refine fn_sound (n := 400) hm (cs := csrdI32) (.cons okrdnumber .nil) (lp := lprdI32) (fn := Go.Proofs.Tryz.f149) (by kernel_rfl) (by kernel_rfl) (by kernel_rfl) iordI32 (.done (by kernel_rfl)) FrdI32 ?_
  rintro ⟨⟨⟨⟩, ⟨⟩⟩, ⟨⟨(b : List Int), (p : Int), ⟨⟩⟩, ⟨⟩⟩⟩ out hw ho
  obtain ⟨hg, ho⟩ := Tr.guard ho
  have hg : spRok b p = true := hg
  cases ho
  refine (runrdI32 b p).trans ?_
  unfold bodyrdI32
  rw [bif_true (by simp [hg])]
  rfl
abbrev iordI64 : Io := ⟨[.ptr 0 0], [oRr], [], [d64s, dI], none⟩
def FrdI64 (d : iordI64.In) : Tr iordI64.Res :=
  .ite (spRok d.2.1.1 d.2.1.2.1) (.ret (.ret ((IntKind.i64.wrap (spRd d.2.1.1 d.2.1.2.1 8).1, ((spRd d.2.1.1 d.2.1.2.1 8).2.2, ())), ((d.2.1.1, ((spRd d.2.1.1 d.2.1.2.1 8).2.1, ())), ())))) .no
abbrev csrdI64 : List (Nat × Hc) := [(179, ioHd iordnumber Frdnumber)]
def hdrdI64 : Hd := hdT csrdI64
def lprdI64 : Lp := lpT []
def bodyrdI64 (a0 : List Int) (a1 : Int) : Option iordI64.Res := bif spRok a0 a1 && (decide (0 ≤ 8) && decide (8 ≤ 8)) then some (Out.ret ((IntKind.i64.wrap (spRd a0 a1 (Int.toNat 8)).fst, (spRd a0 a1 (Int.toNat 8)).snd.snd, ()), (a0, (spRd a0 a1 (Int.toNat 8)).snd.fst, ()), ())) else none
theorem runrdI64 (a0 : List Int) (a1 : Int) : Io.run tt hdrdI64 dr lprdI64 iordI64 Go.Proofs.Tryz.f154 (((), ()), (a0, a1, ()), ()) = bodyrdI64 a0 a1 := by kernel_rfl
theorem okrdI64 : HcOk prog 154 (ioHd iordI64 FrdI64) := by
  refine fn_sound (n := 400) hm (cs := csrdI64) (.cons okrdnumber .nil) (lp := lprdI64) (fn := Go.Proofs.Tryz.f154) (by kernel_rfl) (by kernel_rfl) (by kernel_rfl) iordI64 (.done (by kernel_rfl)) FrdI64 ?_
  rintro ⟨⟨⟨⟩, ⟨⟩⟩, ⟨⟨(b : List Int), (p : Int), ⟨⟩⟩, ⟨⟩⟩⟩ out hw ho
  obtain ⟨hg, ho⟩ := Tr.guard ho
  have hg : spRok b p = true := hg
  cases ho
  refine (runrdI64 b p).trans ?_
  unfold bodyrdI64
  rw [bif_true (by simp [hg])]
  rfl
abbrev iordSkip : Io := ⟨[.ptr 0 0, dI], [oRr], [], [dI], none⟩
def FrdSkip (d : iordSkip.In) : Tr iordSkip.Res :=
  .ite (spRok d.2.1.1 d.2.1.2.1) (.ret (.ret (((spSkip d.2.1.1 d.2.1.2.1 d.1.2.1).2, ()), ((d.2.1.1, ((spSkip d.2.1.1 d.2.1.2.1 d.1.2.1).1, ())), ())))) .no
abbrev csrdSkip : List (Nat × Hc) := [(192, ioHd iordLeft FrdLeft)]
def hdrdSkip : Hd := hdT csrdSkip
def lprdSkip : Lp := lpT []
def bodyrdSkip (a0 : Int) (a1 : List Int) (a2 : Int) : Option iordSkip.Res := bif decide (a0 < 0) then some (Out.ret ((3, ()), (a1, a2, ()), ())) else bif decide (IntKind.i64.wrap ((↑a1.length : Int) - a2) < a0) then some (Out.ret ((1, ()), (a1, a2, ()), ())) else some (Out.ret ((0, ()), (a1, IntKind.i64.wrap (a2 + a0), ()), ()))
theorem runrdSkip (a0 : Int) (a1 : List Int) (a2 : Int) : Io.run tt hdrdSkip dr lprdSkip iordSkip Go.Proofs.Tryz.f193 (((), a0, ()), (a1, a2, ()), ()) = bodyrdSkip a0 a1 a2 := by kernel_rfl
theorem okrdSkip : HcOk prog 193 (ioHd iordSkip FrdSkip) := by
  refine fn_sound (n := 400) hm (cs := csrdSkip) (.cons okrdLeft .nil) (lp := lprdSkip) (fn := Go.Proofs.Tryz.f193) (by kernel_rfl) (by kernel_rfl) (by kernel_rfl) iordSkip (.done (by kernel_rfl)) FrdSkip ?_
  rintro ⟨⟨⟨⟩, (n : Int), ⟨⟩⟩, ⟨⟨(b : List Int), (p : Int), ⟨⟩⟩, ⟨⟩⟩⟩ out hw ho
  obtain ⟨hg, ho⟩ := Tr.guard ho
  simp only [spRok, Bool.and_eq_true, decide_eq_true_eq] at hg
  obtain ⟨h1, h2, h3⟩ := hg
  have h1 : b.length ≤ 4294960000 := h1
  have h2 : (0 : Int) ≤ p := h2
  have h3 : p ≤ (b.length : Int) := h3
  cases ho
  refine (runrdSkip n b p).trans ?_
  unfold bodyrdSkip spSkip
  rw [wrap_i64 (n := (b.length : Int) - p) (by omega) (by omega)]
  by_cases h4 : n < 0
  · rw [bif_true (by simpa using h4), if_pos h4]
  · rw [bif_false (by simpa using h4), if_neg h4]
    by_cases h5 : (b.length : Int) - p < n
    · rw [bif_true (by simpa using h5), if_pos h5]
    · rw [bif_false (by simpa using h5), if_neg h5, wrap_i64 (n := p + n) (by omega) (by omega)]
abbrev iordTake : Io := ⟨[.ptr 0 0, dI], [oRr], [], [dO, dI], none⟩
def FrdTake (d : iordTake.In) : Tr iordTake.Res :=
  .ite (spRok d.2.1.1 d.2.1.2.1) (.ret (.ret (((spTakeB d.2.1.1 d.2.1.2.1 d.1.2.1).1, ((spTakeB d.2.1.1 d.2.1.2.1 d.1.2.1).2.2, ())), ((d.2.1.1, ((spTakeB d.2.1.1 d.2.1.2.1 d.1.2.1).2.1, ())), ())))) .no
abbrev csrdTake : List (Nat × Hc) := [(193, ioHd iordSkip FrdSkip), (166, ioHd iopClone FpClone)]
def hdrdTake : Hd := hdT csrdTake
def lprdTake : Lp := lpT []
def bodyrdTake (a0 : Int) (a1 : List Int) (a2 : Int) : Option iordTake.Res := bif spRok a1 a2 then bif (spSkip a1 a2 a0).snd != 0 then some (Out.ret (([], (spSkip a1 a2 a0).snd, ()), (a1, (spSkip a1 a2 a0).fst, ()), ())) else bif decide (0 ≤ a2) && (decide (a2 ≤ (spSkip a1 a2 a0).fst) && decide ((spSkip a1 a2 a0).fst ≤ (↑a1.length : Int))) then bif decide ((List.drop a2.toNat (List.take (spSkip a1 a2 a0).fst.toNat a1)).length ≤ 4294967296) then some (Out.ret ((List.drop a2.toNat (List.take (spSkip a1 a2 a0).fst.toNat a1), 0, ()), (a1, (spSkip a1 a2 a0).fst, ()), ())) else none else none else none
theorem runrdTake (a0 : Int) (a1 : List Int) (a2 : Int) : Io.run tt hdrdTake dr lprdTake iordTake Go.Proofs.Tryz.f182 (((), a0, ()), (a1, a2, ()), ()) = bodyrdTake a0 a1 a2 := by kernel_rfl
theorem okrdTake : HcOk prog 182 (ioHd iordTake FrdTake) := by
  refine fn_sound (n := 400) hm (cs := csrdTake) (.cons okrdSkip (.cons okpClone .nil)) (lp := lprdTake) (fn := Go.Proofs.Tryz.f182) (by kernel_rfl) (by kernel_rfl) (by kernel_rfl) iordTake (.done (by kernel_rfl)) FrdTake ?_
  rintro ⟨⟨⟨⟩, (n : Int), ⟨⟩⟩, ⟨⟨(b : List Int), (p : Int), ⟨⟩⟩, ⟨⟩⟩⟩ out hw ho
  obtain ⟨hg, ho⟩ := Tr.guard ho
  have hg0 : spRok b p = true := hg
  simp only [spRok, Bool.and_eq_true, decide_eq_true_eq] at hg
  obtain ⟨h1, h2, h3⟩ := hg
  have h1 : b.length ≤ 4294960000 := h1
  have h2 : (0 : Int) ≤ p := h2
  have h3 : p ≤ (b.length : Int) := h3
  cases ho
  refine (runrdTake n b p).trans ?_
  unfold bodyrdTake spTakeB spSkip
  rw [bif_true hg0]
  by_cases h4 : n < 0
  · simp [h4]
  · by_cases h5 : (b.length : Int) - p < n
    · simp [h4, h5]
    · have e0 : List.drop p.toNat (List.take (p + n).toNat b) = (b.drop p.toNat).take n.toNat := by rw [List.drop_take, show (p + n).toNat - p.toNat = n.toNat by omega]
      simp only [h4, h5, if_false, e0, bne_self_eq_false, cond_false]
      rw [bif_true (by simp; omega), bif_true (by simp; omega)]
abbrev iordEnd : Io := ⟨[.ptr 0 0], [oRr], [], [dI], none⟩
def FrdEnd (d : iordEnd.In) : Tr iordEnd.Res := .ret (.ret ((spEnd d.2.1.1 d.2.1.2.1, ()), (d.2.1, ())))
abbrev csrdEnd : List (Nat × Hc) := []
def hdrdEnd : Hd := hdT csrdEnd
def lprdEnd : Lp := lpT []
def bodyrdEnd (a0 : List Int) (a1 : Int) : Option iordEnd.Res := bif decide (a1 < (↑a0.length : Int)) then some (Out.ret ((2, ()), (a0, a1, ()), ())) else some (Out.ret ((0, ()), (a0, a1, ()), ()))
theorem runrdEnd (a0 : List Int) (a1 : Int) : Io.run tt hdrdEnd dr lprdEnd iordEnd Go.Proofs.Tryz.f124 (((), ()), (a0, a1, ()), ()) = bodyrdEnd a0 a1 := by kernel_rfl
theorem okrdEnd : HcOk prog 124 (ioHd iordEnd FrdEnd) := by
  refine fn_sound (n := 400) hm (cs := csrdEnd) HcsOk.nil (lp := lprdEnd) (fn := Go.Proofs.Tryz.f124) (by kernel_rfl) (by kernel_rfl) (by kernel_rfl) iordEnd (.done (by kernel_rfl)) FrdEnd ?_
  rintro ⟨⟨⟨⟩, ⟨⟩⟩, ⟨⟨(b : List Int), (p : Int), ⟨⟩⟩, ⟨⟩⟩⟩ out hw ho
  cases ho
  refine (runrdEnd b p).trans ?_
  unfold bodyrdEnd spEnd
  by_cases h : p < (b.length : Int)
  · rw [bif_true (by simpa using h), if_pos h]
  · rw [bif_false (by simpa using h), if_neg h]
abbrev iordNew : Io := ⟨[dL], [], [oRr], [.ptr 0 0], none⟩
def FrdNew (d : iordNew.In) : Tr iordNew.Res := .ite (decide (d.1.1.length ≤ 4294967296)) (.ret (.ret (((), ()), ((d.1.1, (0, ())), ())))) .no
abbrev csrdNew : List (Nat × Hc) := [(166, ioHd iopClone FpClone)]
def hdrdNew : Hd := hdT csrdNew
def lprdNew : Lp := lpT []
def bodyrdNew (a0 : List Int) : Option iordNew.Res := bif decide (a0.length ≤ 4294967296) then some (Out.ret (((), ()), (a0, 0, ()), ())) else none
theorem runrdNew (a0 : List Int) : Io.run tt hdrdNew dr lprdNew iordNew Go.Proofs.Tryz.f122 ((a0, ()), ()) = bodyrdNew a0 := by kernel_rfl
theorem okrdNew : HcOk prog 122 (ioHd iordNew FrdNew) := by
  refine fn_sound (n := 400) hm (cs := csrdNew) (.cons okpClone .nil) (lp := lprdNew) (fn := Go.Proofs.Tryz.f122) (by kernel_rfl) (by kernel_rfl) (by kernel_rfl) iordNew (.done (by kernel_rfl)) FrdNew ?_
  rintro ⟨⟨(b : List Int), ⟨⟩⟩, ⟨⟩⟩ out hw ho
  obtain ⟨hg, ho⟩ := Tr.guard ho
  cases ho
  exact (runrdNew b).trans (bif_true hg _ _)
end
end Go.Proofs.YtjpeefegeobgfaaGreat.Sym
namespace Go.Proofs.YtjpeefegeobgfaaGreat.Sym
open Go
set_option linter.unusedSimpArgs false
set_option linter.unusedVariables false
noncomputable section
abbrev oEnc : List (List Sh) := [[.ptr 1 0, dI, dI, dB], [dO, dI]]
abbrev EnS : Type := Int × (Bool × List Int)
abbrev EnO : Type := DenO oEnc
abbrev encSt (d : EnO) : EnS := (d.1.2.2.1, (d.1.2.2.2.1, d.2.1.1))
abbrev encOut (v : Int) (s : EnS) : EnO := (((), (v, (s.1, (s.2.1, ())))), ((s.2.2, (130048, ())), ()))
abbrev encOk (d : EnO) : Bool := decide (d.2.1.2.1 = 130048) && decide (d.2.1.1.length ≤ 130048)
def spFail (e : Int) (s : EnS) : EnS := if s.1 = 0 then (e, s.2) else s
def spPutE (v : Int) (n : Nat) (s : EnS) : EnS := if 130048 - (s.2.2.length : Int) < n then (s.1, (true, s.2.2)) else (s.1, (s.2.1, s.2.2 ++ spBE v n))
def spRawE (p : List Int) (s : EnS) : EnS := if 130048 - (s.2.2.length : Int) < p.length then (s.1, (true, s.2.2)) else (s.1, (s.2.1, s.2.2 ++ p))
def spStrE (t : List Int) (s : EnS) : EnS := if (spUtf t).2 = false then spFail 6 s else if 255 < (t.length : Int) then spFail 4 s else spRawE t (spPutE t.length 2 s)
def spLacks (v : Int) (z : Bool) (lo hi : Int) (s : EnS) : EnS := if z = false ∧ (v < lo ∨ hi < v) then spFail 7 s else s
abbrev tBlobT : Ty := .prod .bool (.prod bs .unit)
theorem encOk_iff {v e : Int} {f : Bool} {b : List Int} {m : Int} (h : encOk (((), (v, (e, (f, ())))), ((b, (m, ())), ())) = true) : m = 130048 ∧ b.length ≤ 130048 := by
  simpa [encOk] using h
theorem spWr_le {b : List Int} (x : Int) (n : Nat) (h : b.length ≤ 130048) : (spWr b 130048 x n).2.length ≤ 130048 := by
  unfold spWr
  split
  · exact h
  · simp only [List.length_append, spBE_len]; omega
theorem spWr_putE (x : Int) (n : Nat) (v e : Int) (f : Bool) (b : List Int) :
    encOut v (spPutE x n (e, f, b)) = (((), (v, (e, ((f || decide ((spWr b 130048 x n).1 ≠ 0)), ())))), (((spWr b 130048 x n).2, (130048, ())), ())) := by
  unfold spPutE spWr encOut
  by_cases h : 130048 - (b.length : Int) < n
  · simp [h]
  · simp [h]
theorem spWok_of {b : List Int} (h : b.length ≤ 130048) : spWok b 130048 = true := by
  simp [spWok]; omega
theorem spPutE_le {s : EnS} (x : Int) (n : Nat) (h : s.2.2.length ≤ 130048) : (spPutE x n s).2.2.length ≤ 130048 := by
  unfold spPutE
  split
  · exact h
  · simp only [List.length_append, spBE_len]; omega
theorem spRawW_le {b : List Int} (p : List Int) (h : b.length ≤ 130048) : (spRaw b 130048 [p]).2.length ≤ 130048 := by
  unfold spRaw
  split
  · exact h
  · simp only [spSumLen, spJoin, List.length_append, List.length_nil] at *; omega
theorem spRaw_rawE (p : List Int) (v e : Int) (f : Bool) (b : List Int) :
    encOut v (spRawE p (e, f, b)) = (((), (v, (e, ((f || decide ((spRaw b 130048 [p]).1 ≠ 0)), ())))), (((spRaw b 130048 [p]).2, (130048, ())), ())) := by
  unfold spRawE spRaw encOut
  by_cases h : 130048 - (b.length : Int) < p.length
  · simp [h, spSumLen]
  · simp [h, spSumLen, spJoin]
abbrev ioeFail : Io := ⟨[.ptr 0 0, dI], oEnc, [], [], none⟩
def FeFail (d : ioeFail.In) : Tr ioeFail.Res := .ite (encOk d.2) (.ret (.ret ((), encOut d.2.1.2.1 (spFail d.1.2.1 (encSt d.2))))) .no
abbrev cseFail : List (Nat × Hc) := []
def hdeFail : Hd := hdT cseFail
def lpeFail : Lp := lpT []
def bodyeFail (a0 : Int) (a1 : Int) (a2 : Int) (a3 : Bool) (a4 : List Int) (a5 : Int) : Option ioeFail.Res := bif a2 == 0 then some (Out.ret ((), ((), a1, a0, a3, ()), (a4, a5, ()), ())) else some (Out.ret ((), ((), a1, a2, a3, ()), (a4, a5, ()), ()))
theorem runeFail (a0 : Int) (a1 : Int) (a2 : Int) (a3 : Bool) (a4 : List Int) (a5 : Int) : Io.run tt hdeFail dr lpeFail ioeFail Go.Proofs.Tryz.f137 (((), a0, ()), ((), a1, a2, a3, ()), (a4, a5, ()), ()) = bodyeFail a0 a1 a2 a3 a4 a5 := by kernel_rfl
theorem okeFail : HcOk prog 137 (ioHd ioeFail FeFail) := by
  refine fn_sound (n := 400) hm (cs := cseFail) HcsOk.nil (lp := lpeFail) (fn := Go.Proofs.Tryz.f137) (by kernel_rfl) (by kernel_rfl) (by kernel_rfl) ioeFail (.done (by kernel_rfl)) FeFail ?_
  rintro ⟨⟨⟨⟩, (x : Int), ⟨⟩⟩, ⟨⟨⟨⟩, (v : Int), (e : Int), (f : Bool), ⟨⟩⟩, ⟨(b : List Int), (m : Int), ⟨⟩⟩, ⟨⟩⟩⟩ out hw ho
  obtain ⟨hg, ho⟩ := Tr.guard ho
  obtain ⟨rfl, hb⟩ := encOk_iff hg
  cases ho
  refine (runeFail x v e f b 130048).trans ?_
  unfold bodyeFail spFail encSt encOut
  by_cases h : e = 0
  · rw [bif_true (by simpa using h), if_pos h]
  · rw [bif_false (by simpa using h), if_neg h]
abbrev ioenoted : Io := ⟨[.ptr 0 0, dI], oEnc, [], [], none⟩
def Fenoted (d : ioenoted.In) : Tr ioenoted.Res := .ite (encOk d.2) (.ret (.ret ((), encOut d.2.1.2.1 (d.2.1.2.2.1, (d.2.1.2.2.2.1 || decide (d.1.2.1 ≠ 0), d.2.2.1.1))))) .no
abbrev csenoted : List (Nat × Hc) := []
def hdenoted : Hd := hdT csenoted
def lpenoted : Lp := lpT []
def bodyenoted (a0 : Int) (a1 : Int) (a2 : Int) (a3 : Bool) (a4 : List Int) (a5 : Int) : Option ioenoted.Res := bif a3 then some (Out.ret ((), ((), a1, a2, true, ()), (a4, a5, ()), ())) else some (Out.ret ((), ((), a1, a2, a0 != 0, ()), (a4, a5, ()), ()))
theorem runenoted (a0 : Int) (a1 : Int) (a2 : Int) (a3 : Bool) (a4 : List Int) (a5 : Int) : Io.run tt hdenoted dr lpenoted ioenoted Go.Proofs.Tryz.f138 (((), a0, ()), ((), a1, a2, a3, ()), (a4, a5, ()), ()) = bodyenoted a0 a1 a2 a3 a4 a5 := by kernel_rfl
theorem okenoted : HcOk prog 138 (ioHd ioenoted Fenoted) := by
  refine fn_sound (n := 400) hm (cs := csenoted) HcsOk.nil (lp := lpenoted) (fn := Go.Proofs.Tryz.f138) (by kernel_rfl) (by kernel_rfl) (by kernel_rfl) ioenoted (.done (by kernel_rfl)) Fenoted ?_
  rintro ⟨⟨⟨⟩, (x : Int), ⟨⟩⟩, ⟨⟨⟨⟩, (v : Int), (e : Int), (f : Bool), ⟨⟩⟩, ⟨(b : List Int), (m : Int), ⟨⟩⟩, ⟨⟩⟩⟩ out hw ho
  obtain ⟨hg, ho⟩ := Tr.guard ho
  obtain ⟨rfl, hb⟩ := encOk_iff hg
  cases ho
  refine (runenoted x v e f b 130048).trans ?_
  unfold bodyenoted
  cases f
  · show some _ = _
    have : (x != 0) = decide (x ≠ 0) := by rw [Bool.eq_iff_iff]; simp
    rw [this]; rfl
  · rfl
abbrev ioeLacks : Io := ⟨[.ptr 0 0, dB, dI, dI], oEnc, [], [], none⟩
def FeLacks (d : ioeLacks.In) : Tr ioeLacks.Res := .ite (encOk d.2) (.ret (.ret ((), encOut d.2.1.2.1 (spLacks d.2.1.2.1 d.1.2.1 d.1.2.2.1 d.1.2.2.2.1 (encSt d.2))))) .no
abbrev cseLacks : List (Nat × Hc) := [(137, ioHd ioeFail FeFail)]
def hdeLacks : Hd := hdT cseLacks
def lpeLacks : Lp := lpT []
def bodyeLacks (a0 : Bool) (a1 : Int) (a2 : Int) (a3 : Int) (a4 : Int) (a5 : Bool) (a6 : List Int) (a7 : Int) : Option ioeLacks.Res := bif !a0 then bif decide (a3 < a1) then bif decide (a7 = 130048) && decide (a6.length ≤ 130048) then some (Out.ret ((), ((), a3, (spFail 7 (a4, a5, a6)).fst, (spFail 7 (a4, a5, a6)).snd.fst, ()), ((spFail 7 (a4, a5, a6)).snd.snd, 130048, ()), ())) else none else bif decide (a2 < a3) then bif decide (a7 = 130048) && decide (a6.length ≤ 130048) then some (Out.ret ((), ((), a3, (spFail 7 (a4, a5, a6)).fst, (spFail 7 (a4, a5, a6)).snd.fst, ()), ((spFail 7 (a4, a5, a6)).snd.snd, 130048, ()), ())) else none else some (Out.ret ((), ((), a3, a4, a5, ()), (a6, a7, ()), ())) else some (Out.ret ((), ((), a3, a4, a5, ()), (a6, a7, ()), ()))
theorem runeLacks (a0 : Bool) (a1 : Int) (a2 : Int) (a3 : Int) (a4 : Int) (a5 : Bool) (a6 : List Int) (a7 : Int) : Io.run tt hdeLacks dr lpeLacks ioeLacks Go.Proofs.Tryz.f55 (((), a0, a1, a2, ()), ((), a3, a4, a5, ()), (a6, a7, ()), ()) = bodyeLacks a0 a1 a2 a3 a4 a5 a6 a7 := by kernel_rfl
theorem okeLacks : HcOk prog 55 (ioHd ioeLacks FeLacks) := by
  refine fn_sound (n := 400) hm (cs := cseLacks) (.cons okeFail .nil) (lp := lpeLacks) (fn := Go.Proofs.Tryz.f55) (by kernel_rfl) (by kernel_rfl) (by kernel_rfl) ioeLacks (.done (by kernel_rfl)) FeLacks ?_
  rintro ⟨⟨⟨⟩, (z : Bool), (lo : Int), (hi : Int), ⟨⟩⟩, ⟨⟨⟨⟩, (v : Int), (e : Int), (f : Bool), ⟨⟩⟩, ⟨(b : List Int), (m : Int), ⟨⟩⟩, ⟨⟩⟩⟩ out hw ho
  obtain ⟨hg, ho⟩ := Tr.guard ho
  obtain ⟨rfl, hb⟩ := encOk_iff hg
  cases ho
  refine (runeLacks z lo hi v e f b 130048).trans ?_
  unfold bodyeLacks
  have g : (decide ((130048 : Int) = 130048) && decide (b.length ≤ 130048)) = true := by simpa using hb
  show _ = some (Out.ret ((), encOut v (spLacks v z lo hi (e, f, b))))
  unfold spLacks
  cases z
  · by_cases h1 : v < lo
    · rw [bif_true (by rfl), bif_true (by simpa using h1), bif_true g, if_pos ⟨rfl, .inl h1⟩]
    · rw [bif_true (by rfl), bif_false (by simpa using h1)]
      by_cases h2 : hi < v
      · rw [bif_true (by simpa using h2), bif_true g, if_pos ⟨rfl, .inr h2⟩]
      · rw [bif_false (by simpa using h2), if_neg (by simp; omega)]
  · rw [bif_false (by rfl), if_neg (by simp)]
abbrev ioeHas : Io := ⟨[.ptr 0 0, dI, dI], oEnc, [], [dB], none⟩
def FeHas (d : ioeHas.In) : Tr ioeHas.Res := .ite (encOk d.2) (.ret (.ret ((decide (d.1.2.1 ≤ d.2.1.2.1) && decide (d.2.1.2.1 ≤ d.1.2.2.1), ()), encOut d.2.1.2.1 (encSt d.2)))) .no
abbrev cseHas : List (Nat × Hc) := []
def hdeHas : Hd := hdT cseHas
def lpeHas : Lp := lpT []
def bodyeHas (a0 : Int) (a1 : Int) (a2 : Int) (a3 : Int) (a4 : Bool) (a5 : List Int) (a6 : Int) : Option ioeHas.Res := bif decide (a0 ≤ a2) then some (Out.ret ((decide (a2 ≤ a1), ()), ((), a2, a3, a4, ()), (a5, a6, ()), ())) else some (Out.ret ((false, ()), ((), a2, a3, a4, ()), (a5, a6, ()), ()))
theorem runeHas (a0 : Int) (a1 : Int) (a2 : Int) (a3 : Int) (a4 : Bool) (a5 : List Int) (a6 : Int) : Io.run tt hdeHas dr lpeHas ioeHas Go.Proofs.Tryz.f57 (((), a0, a1, ()), ((), a2, a3, a4, ()), (a5, a6, ()), ()) = bodyeHas a0 a1 a2 a3 a4 a5 a6 := by kernel_rfl
theorem okeHas : HcOk prog 57 (ioHd ioeHas FeHas) := by
  refine fn_sound (n := 400) hm (cs := cseHas) HcsOk.nil (lp := lpeHas) (fn := Go.Proofs.Tryz.f57) (by kernel_rfl) (by kernel_rfl) (by kernel_rfl) ioeHas (.done (by kernel_rfl)) FeHas ?_
  rintro ⟨⟨⟨⟩, (lo : Int), (hi : Int), ⟨⟩⟩, ⟨⟨⟨⟩, (v : Int), (e : Int), (f : Bool), ⟨⟩⟩, ⟨(b : List Int), (m : Int), ⟨⟩⟩, ⟨⟩⟩⟩ out hw ho
  obtain ⟨hg, ho⟩ := Tr.guard ho
  obtain ⟨rfl, hb⟩ := encOk_iff hg
  cases ho
  refine (runeHas lo hi v e f b 130048).trans ?_
  unfold bodyeHas
  show _ = some (Out.ret ((decide (lo ≤ v) && decide (v ≤ hi), ()), encOut v (e, f, b)))
  by_cases h : lo ≤ v
  · rw [bif_true (by simpa using h), decide_eq_true h]; rfl
  · rw [bif_false (by simpa using h), decide_eq_false h]; rfl
theorem encPut (n : Nat) (x : Int) {a1 a2 : Int} {a3 : Bool} {a4 : List Int} (h : a4.length ≤ 130048) :
    (bif spWok a4 130048 then bif decide ((130048 : Int) = 130048) && decide ((spWr a4 130048 x n).snd.length ≤ 130048) then some (Out.ret ((), ((), a1, a2, a3 || decide ((spWr a4 130048 x n).fst ≠ 0), ()), ((spWr a4 130048 x n).snd, 130048, ()), ())) else none else (none : Option ioeFail.Res))
      = some (Out.ret ((), encOut a1 (spPutE x n (a2, a3, a4)))) := by
  rw [bif_true (spWok_of h), bif_true (by simpa using spWr_le x n h), spWr_putE]
theorem encRaw (p : List Int) {a1 a2 : Int} {a3 : Bool} {a4 : List Int} (h : a4.length ≤ 130048) (hp : p.length ≤ 4294960000) :
    (bif spWok a4 130048 && decide (spSumLen [p] ≤ 4294960000) then bif decide ((130048 : Int) = 130048) && decide ((spRaw a4 130048 [p]).snd.length ≤ 130048) then some (Out.ret ((), ((), a1, a2, a3 || decide ((spRaw a4 130048 [p]).fst ≠ 0), ()), ((spRaw a4 130048 [p]).snd, 130048, ()), ())) else none else (none : Option ioeFail.Res))
      = some (Out.ret ((), encOut a1 (spRawE p (a2, a3, a4)))) := by
  rw [bif_true (by rw [spWok_of h, Bool.true_and]; exact decide_eq_true (show p.length + 0 ≤ 4294960000 by omega)), bif_true (by simpa using spRawW_le p h), spRaw_rawE]
abbrev ioeI16 : Io := ⟨[.ptr 0 0, d16], oEnc, [], [], none⟩
def FeI16 (d : ioeI16.In) : Tr ioeI16.Res := .ite (encOk d.2) (.ret (.ret ((), encOut d.2.1.2.1 (spPutE d.1.2.1 2 (encSt d.2))))) .no
abbrev cseI16 : List (Nat × Hc) := [(145, ioHd iowI16 FwI16), (138, ioHd ioenoted Fenoted)]
def hdeI16 : Hd := hdT cseI16
def lpeI16 : Lp := lpT []
def bodyeI16 (a0 : Int) (a1 : Int) (a2 : Int) (a3 : Bool) (a4 : List Int) (a5 : Int) : Option ioeI16.Res := bif spWok a4 a5 then bif decide (a5 = 130048) && decide ((spWr a4 a5 a0 2).snd.length ≤ 130048) then some (Out.ret ((), ((), a1, a2, a3 || decide ((spWr a4 a5 a0 2).fst ≠ 0), ()), ((spWr a4 a5 a0 2).snd, 130048, ()), ())) else none else none
theorem runeI16 (a0 : Int) (a1 : Int) (a2 : Int) (a3 : Bool) (a4 : List Int) (a5 : Int) : Io.run tt hdeI16 dr lpeI16 ioeI16 Go.Proofs.Tryz.f76 (((), a0, ()), ((), a1, a2, a3, ()), (a4, a5, ()), ()) = bodyeI16 a0 a1 a2 a3 a4 a5 := by kernel_rfl
theorem okeI16 : HcOk prog 76 (ioHd ioeI16 FeI16) := by
  refine fn_sound (n := 400) hm (cs := cseI16) (.cons okwI16 (.cons okenoted .nil)) (lp := lpeI16) (fn := Go.Proofs.Tryz.f76) (by kernel_rfl) (by kernel_rfl) (by kernel_rfl) ioeI16 (.done (by kernel_rfl)) FeI16 ?_
  rintro ⟨⟨⟨⟩, (x : Int), ⟨⟩⟩, ⟨⟨⟨⟩, (v : Int), (e : Int), (f : Bool), ⟨⟩⟩, ⟨(b : List Int), (m : Int), ⟨⟩⟩, ⟨⟩⟩⟩ out hw ho
  obtain ⟨hg, ho⟩ := Tr.guard ho
  obtain ⟨rfl, hb⟩ := encOk_iff hg
  cases ho
  refine (runeI16 x v e f b 130048).trans ?_
  exact encPut 2 x hb
abbrev ioeI32 : Io := ⟨[.ptr 0 0, dS32], oEnc, [], [], none⟩
def FeI32 (d : ioeI32.In) : Tr ioeI32.Res := .ite (encOk d.2) (.ret (.ret ((), encOut d.2.1.2.1 (spPutE d.1.2.1 4 (encSt d.2))))) .no
abbrev cseI32 : List (Nat × Hc) := [(139, ioHd iowI32 FwI32), (138, ioHd ioenoted Fenoted)]
def hdeI32 : Hd := hdT cseI32
def lpeI32 : Lp := lpT []
def bodyeI32 (a0 : Int) (a1 : Int) (a2 : Int) (a3 : Bool) (a4 : List Int) (a5 : Int) : Option ioeI32.Res := bif spWok a4 a5 then bif decide (a5 = 130048) && decide ((spWr a4 a5 a0 4).snd.length ≤ 130048) then some (Out.ret ((), ((), a1, a2, a3 || decide ((spWr a4 a5 a0 4).fst ≠ 0), ()), ((spWr a4 a5 a0 4).snd, 130048, ()), ())) else none else none
theorem runeI32 (a0 : Int) (a1 : Int) (a2 : Int) (a3 : Bool) (a4 : List Int) (a5 : Int) : Io.run tt hdeI32 dr lpeI32 ioeI32 Go.Proofs.Tryz.f56 (((), a0, ()), ((), a1, a2, a3, ()), (a4, a5, ()), ()) = bodyeI32 a0 a1 a2 a3 a4 a5 := by kernel_rfl
theorem okeI32 : HcOk prog 56 (ioHd ioeI32 FeI32) := by
  refine fn_sound (n := 400) hm (cs := cseI32) (.cons okwI32 (.cons okenoted .nil)) (lp := lpeI32) (fn := Go.Proofs.Tryz.f56) (by kernel_rfl) (by kernel_rfl) (by kernel_rfl) ioeI32 (.done (by kernel_rfl)) FeI32 ?_
  rintro ⟨⟨⟨⟩, (x : Int), ⟨⟩⟩, ⟨⟨⟨⟩, (v : Int), (e : Int), (f : Bool), ⟨⟩⟩, ⟨(b : List Int), (m : Int), ⟨⟩⟩, ⟨⟩⟩⟩ out hw ho
  obtain ⟨hg, ho⟩ := Tr.guard ho
  obtain ⟨rfl, hb⟩ := encOk_iff hg
  cases ho
  refine (runeI32 x v e f b 130048).trans ?_
  exact encPut 4 x hb
abbrev ioeI64 : Io := ⟨[.ptr 0 0, d64s], oEnc, [], [], none⟩
def FeI64 (d : ioeI64.In) : Tr ioeI64.Res := .ite (encOk d.2) (.ret (.ret ((), encOut d.2.1.2.1 (spPutE d.1.2.1 8 (encSt d.2))))) .no
abbrev cseI64 : List (Nat × Hc) := [(143, ioHd iowI64 FwI64), (138, ioHd ioenoted Fenoted)]
def hdeI64 : Hd := hdT cseI64
def lpeI64 : Lp := lpT []
def bodyeI64 (a0 : Int) (a1 : Int) (a2 : Int) (a3 : Bool) (a4 : List Int) (a5 : Int) : Option ioeI64.Res := bif spWok a4 a5 then bif decide (a5 = 130048) && decide ((spWr a4 a5 a0 8).snd.length ≤ 130048) then some (Out.ret ((), ((), a1, a2, a3 || decide ((spWr a4 a5 a0 8).fst ≠ 0), ()), ((spWr a4 a5 a0 8).snd, 130048, ()), ())) else none else none
theorem runeI64 (a0 : Int) (a1 : Int) (a2 : Int) (a3 : Bool) (a4 : List Int) (a5 : Int) : Io.run tt hdeI64 dr lpeI64 ioeI64 Go.Proofs.Tryz.f64 (((), a0, ()), ((), a1, a2, a3, ()), (a4, a5, ()), ()) = bodyeI64 a0 a1 a2 a3 a4 a5 := by kernel_rfl
theorem okeI64 : HcOk prog 64 (ioHd ioeI64 FeI64) := by
  refine fn_sound (n := 400) hm (cs := cseI64) (.cons okwI64 (.cons okenoted .nil)) (lp := lpeI64) (fn := Go.Proofs.Tryz.f64) (by kernel_rfl) (by kernel_rfl) (by kernel_rfl) ioeI64 (.done (by kernel_rfl)) FeI64 ?_
  rintro ⟨⟨⟨⟩, (x : Int), ⟨⟩⟩, ⟨⟨⟨⟩, (v : Int), (e : Int), (f : Bool), ⟨⟩⟩, ⟨(b : List Int), (m : Int), ⟨⟩⟩, ⟨⟩⟩⟩ out hw ho
  obtain ⟨hg, ho⟩ := Tr.guard ho
  obtain ⟨rfl, hb⟩ := encOk_iff hg
  cases ho
  refine (runeI64 x v e f b 130048).trans ?_
  exact encPut 8 x hb
abbrev ioeStr : Io := ⟨[.ptr 0 0, .dat .str false false], oEnc, [], [], none⟩
def FeStr (d : ioeStr.In) : Tr ioeStr.Res := .ite (encOk d.2) (.ret (.ret ((), encOut d.2.1.2.1 (spStrE d.1.2.1 (encSt d.2))))) .no
abbrev cseStr : List (Nat × Hc) := [(141, ioHd iopUtf FpUtf), (137, ioHd ioeFail FeFail), (76, ioHd ioeI16 FeI16), (142, ioHd iowRaw FwRaw), (138, ioHd ioenoted Fenoted)]
def hdeStr : Hd := hdT cseStr
def lpeStr : Lp := lpT []
def bodyeStr (a0 : List Int) (a1 : Int) (a2 : Int) (a3 : Bool) (a4 : List Int) (a5 : Int) : Option ioeStr.Res := bif !(spUtf a0).snd then bif decide (a5 = 130048) && decide (a4.length ≤ 130048) then some (Out.ret ((), ((), a1, (spFail 6 (a2, a3, a4)).fst, (spFail 6 (a2, a3, a4)).snd.fst, ()), ((spFail 6 (a2, a3, a4)).snd.snd, 130048, ()), ())) else none else bif decide (255 < (↑a0.length : Int)) then bif decide (a5 = 130048) && decide (a4.length ≤ 130048) then some (Out.ret ((), ((), a1, (spFail 4 (a2, a3, a4)).fst, (spFail 4 (a2, a3, a4)).snd.fst, ()), ((spFail 4 (a2, a3, a4)).snd.snd, 130048, ()), ())) else none else bif decide (a5 = 130048) && decide (a4.length ≤ 130048) then bif spWok (spPutE (IntKind.i16.wrap (↑a0.length : Int)) 2 (a2, a3, a4)).snd.snd 130048 && decide (spSumLen [a0] ≤ 4294960000) then bif decide (130048 = 130048) && decide ((spRaw (spPutE (IntKind.i16.wrap (↑a0.length : Int)) 2 (a2, a3, a4)).snd.snd 130048 [a0]).snd.length ≤ 130048) then some (Out.ret ((), ((), a1, (spPutE (IntKind.i16.wrap (↑a0.length : Int)) 2 (a2, a3, a4)).fst, (spPutE (IntKind.i16.wrap (↑a0.length : Int)) 2 (a2, a3, a4)).snd.fst || decide ((spRaw (spPutE (IntKind.i16.wrap (↑a0.length : Int)) 2 (a2, a3, a4)).snd.snd 130048 [a0]).fst ≠ 0), ()), ((spRaw (spPutE (IntKind.i16.wrap (↑a0.length : Int)) 2 (a2, a3, a4)).snd.snd 130048 [a0]).snd, 130048, ()), ())) else none else none else none
theorem runeStr (a0 : List Int) (a1 : Int) (a2 : Int) (a3 : Bool) (a4 : List Int) (a5 : Int) : Io.run tt hdeStr dr lpeStr ioeStr Go.Proofs.Tryz.f61 (((), a0, ()), ((), a1, a2, a3, ()), (a4, a5, ()), ()) = bodyeStr a0 a1 a2 a3 a4 a5 := by kernel_rfl
theorem okeStr : HcOk prog 61 (ioHd ioeStr FeStr) := by
  refine fn_sound (n := 400) hm (cs := cseStr) (.cons okpUtf (.cons okeFail (.cons okeI16 (.cons okwRaw (.cons okenoted .nil))))) (lp := lpeStr) (fn := Go.Proofs.Tryz.f61) (by kernel_rfl) (by kernel_rfl) (by kernel_rfl) ioeStr (.done (by kernel_rfl)) FeStr ?_
  rintro ⟨⟨⟨⟩, (t : List Int), ⟨⟩⟩, ⟨⟨⟨⟩, (v : Int), (e : Int), (f : Bool), ⟨⟩⟩, ⟨(b : List Int), (m : Int), ⟨⟩⟩, ⟨⟩⟩⟩ out hw ho
  obtain ⟨hg, ho⟩ := Tr.guard ho
  obtain ⟨rfl, hb⟩ := encOk_iff hg
  cases ho
  refine (runeStr t v e f b 130048).trans ?_
  unfold bodyeStr
  have g : ∀ c : List Int, c.length ≤ 130048 → (decide ((130048 : Int) = 130048) && decide (c.length ≤ 130048)) = true := fun c h => by simpa using h
  show _ = some (Out.ret ((), encOut v (spStrE t (e, f, b))))
  unfold spStrE
  cases hu : (spUtf t).2
  · rw [bif_true (by rfl), bif_true (g b hb), if_pos rfl]
  · rw [bif_false (by rfl), if_neg (by simp)]
    by_cases h1 : (255 : Int) < (t.length : Int)
    · rw [bif_true (by simpa using h1), bif_true (g b hb), if_pos h1]
    · rw [bif_false (by simpa using h1), if_neg h1, bif_true (g b hb), show IntKind.i16.wrap (t.length : Int) = t.length from wrap_id (by simp [inR, IntKind.min, IntKind.max, IntKind.signed, IntKind.bits]; omega)]
      exact encRaw t (spPutE_le (s := (e, f, b)) _ 2 hb) (by omega)
def spNameE (n : Bool × (List Int × Unit)) (s : EnS) : EnS := if n.1 = true ∧ n.2.1 ≠ [] then spFail 70 s else if n.1 = true then spPutE (-1) 2 s else spStrE n.2.1 s
def spBlobE (n : Bool × (List Int × Unit)) (s : EnS) : EnS := if n.1 = true ∧ 0 < n.2.1.length then spFail 70 s else if n.1 = true then spPutE (-1) 4 s else spRawE n.2.1 (spPutE (IntKind.i32.wrap n.2.1.length) 4 s)
abbrev ioeNew : Io := ⟨[dI], [], oEnc, [.ptr 0 0], none⟩
def spNewE (v : Int) : Int := if v < 0 ∨ 3 < v then 8 else 0
def FeNew (d : ioeNew.In) : Tr ioeNew.Res := .ret (.ret (((), ()), encOut d.1.1 (spNewE d.1.1, (false, ([] : List Int)))))
abbrev cseNew : List (Nat × Hc) := [(126, ioHd iowNew FwNew), (137, ioHd ioeFail FeFail)]
def hdeNew : Hd := hdT cseNew
def lpeNew : Lp := lpT []
def bodyeNew (a0 : Int) : Option ioeNew.Res := bif decide (a0 < 0) then some (Out.ret (((), ()), ((), a0, 8, false, ()), ([], 130048, ()), ())) else bif decide (3 < a0) then some (Out.ret (((), ()), ((), a0, 8, false, ()), ([], 130048, ()), ())) else some (Out.ret (((), ()), ((), a0, 0, false, ()), ([], spMin (spMax 130048 0) 1048576, ()), ()))
theorem runeNew (a0 : Int) : Io.run tt hdeNew dr lpeNew ioeNew Go.Proofs.Tryz.f54 ((a0, ()), ()) = bodyeNew a0 := by kernel_rfl
theorem okeNew : HcOk prog 54 (ioHd ioeNew FeNew) := by
  refine fn_sound (n := 400) hm (cs := cseNew) (.cons okwNew (.cons okeFail .nil)) (lp := lpeNew) (fn := Go.Proofs.Tryz.f54) (by kernel_rfl) (by kernel_rfl) (by kernel_rfl) ioeNew (.done (by kernel_rfl)) FeNew ?_
  rintro ⟨⟨(v : Int), ⟨⟩⟩, ⟨⟩⟩ out hw ho
  cases ho
  refine (runeNew v).trans ?_
  unfold bodyeNew
  have e : spMin (spMax 130048 0) 1048576 = 130048 := by decide
  show _ = some (Out.ret (((), ()), encOut v (if v < 0 ∨ 3 < v then 8 else 0, (false, ([] : List Int)))))
  by_cases h1 : v < 0
  · rw [bif_true (by simpa using h1), if_pos (.inl h1)]
  · rw [bif_false (by simpa using h1)]
    by_cases h2 : 3 < v
    · rw [bif_true (by simpa using h2), if_pos (.inr h2)]
    · rw [bif_false (by simpa using h2), if_neg (by omega), e]
abbrev ioeDone : Io := ⟨[.ptr 0 0], oEnc, [], [dO, dI], none⟩
def spDoneE (s : EnS) : Int := if s.1 = 0 then (if s.2.1 = true then 4 else 0) else s.1
def spDoneO (s : EnS) : List Int := if spDoneE s = 0 then s.2.2 else []
def FeDone (d : ioeDone.In) : Tr ioeDone.Res := .ite (encOk d.2) (.ret (.ret ((spDoneO (encSt d.2), (spDoneE (encSt d.2), ())), encOut d.2.1.2.1 (spDoneE (encSt d.2), (d.2.1.2.2.2.1, d.2.2.1.1))))) .no
abbrev cseDone : List (Nat × Hc) := [(128, ioHd iowBytes FwBytes)]
def hdeDone : Hd := hdT cseDone
def lpeDone : Lp := lpT []
def bodyeDone (a0 : Int) (a1 : Int) (a2 : Bool) (a3 : List Int) (a4 : Int) : Option ioeDone.Res := bif a1 == 0 then bif a2 then some (Out.ret (([], 4, ()), ((), a0, 4, a2, ()), (a3, a4, ()), ())) else bif a1 != 0 then some (Out.ret (([], a1, ()), ((), a0, a1, a2, ()), (a3, a4, ()), ())) else bif decide (a3.length ≤ 4294967296) then some (Out.ret ((a3, 0, ()), ((), a0, a1, a2, ()), (a3, a4, ()), ())) else none else bif a1 != 0 then some (Out.ret (([], a1, ()), ((), a0, a1, a2, ()), (a3, a4, ()), ())) else bif decide (a3.length ≤ 4294967296) then some (Out.ret ((a3, 0, ()), ((), a0, a1, a2, ()), (a3, a4, ()), ())) else none
theorem runeDone (a0 : Int) (a1 : Int) (a2 : Bool) (a3 : List Int) (a4 : Int) : Io.run tt hdeDone dr lpeDone ioeDone Go.Proofs.Tryz.f65 (((), ()), ((), a0, a1, a2, ()), (a3, a4, ()), ()) = bodyeDone a0 a1 a2 a3 a4 := by kernel_rfl
theorem okeDone : HcOk prog 65 (ioHd ioeDone FeDone) := by
  refine fn_sound (n := 400) hm (cs := cseDone) (.cons okwBytes .nil) (lp := lpeDone) (fn := Go.Proofs.Tryz.f65) (by kernel_rfl) (by kernel_rfl) (by kernel_rfl) ioeDone (.done (by kernel_rfl)) FeDone ?_
  rintro ⟨⟨⟨⟩, ⟨⟩⟩, ⟨⟨⟨⟩, (v : Int), (e : Int), (f : Bool), ⟨⟩⟩, ⟨(b : List Int), (m : Int), ⟨⟩⟩, ⟨⟩⟩⟩ out hw ho
  obtain ⟨hg, ho⟩ := Tr.guard ho
  obtain ⟨rfl, hb⟩ := encOk_iff hg
  cases ho
  refine (runeDone v e f b 130048).trans ?_
  unfold bodyeDone
  unfold spDoneO
  show _ = some (Out.ret (((if spDoneE (e, f, b) = 0 then b else [] : List Int), (spDoneE (e, f, b), ())), encOut v (spDoneE (e, f, b), (f, b))))
  have g : decide (b.length ≤ 4294967296) = true := by simp; omega
  unfold spDoneE
  rw [g]
  simp only [cond_true]
  by_cases h : e = 0
  · subst h
    cases f
    · rw [bif_true (by rfl), bif_false (by rfl), bif_false (by rfl)]; rfl
    · rw [bif_true (by rfl), bif_true (by rfl)]; rfl
  · rw [bif_false (by simpa using h), bif_true (by simpa using h), if_neg h, if_neg h]
end
end Go.Proofs.YtjpeefegeobgfaaGreat.Sym
namespace Go.Proofs.YtjpeefegeobgfaaGreat.Sym
open Go
set_option linter.unusedSimpArgs false
set_option linter.unusedVariables false
noncomputable section
abbrev oDec : List (List Sh) := [[.ptr 1 0, dI, dI], [dL, dI]]
abbrev oDecZ : List (List Sh) := [[.nil, dI, dI]]
abbrev oDec2 : List (List Sh) := [[.ptr 1 0, dI, dI], [dL, dI], [.ptr 0 0], [dI]]
abbrev oDecT : List (List Sh) := [[.ptr 2 0], [dI], [.ptr 3 0, dI, dI], [dL, dI]]
abbrev DeS : Type := Int × Int
abbrev decSt (d : DenO oDec) : DeS := (d.1.2.2.1, d.2.1.2.1)
abbrev decOut (v : Int) (b : List Int) (s : DeS) : DenO oDec := (((), (v, (s.1, ()))), ((b, (s.2, ())), ()))
def spDok (b : List Int) (p : Int) : Bool := decide (b.length ≤ 130048) && (decide (0 ≤ p) && decide (p ≤ (b.length : Int)))
abbrev decOk (d : DenO oDec) : Bool := spDok d.2.1.1 d.2.1.2.1
def spDn (k : IntKind) (n : Nat) (b : List Int) (s : DeS) : Int × DeS := if s.1 = 0 then (k.wrap (spRd b s.2 n).1, ((spRd b s.2 n).2.2, (spRd b s.2 n).2.1)) else (0, s)
def spDTake (b : List Int) (n : Int) (s : DeS) : List Int × DeS := if s.1 = 0 then (if n < 0 then ([], (5, s.2)) else ((spTakeB b s.2 n).1, ((spTakeB b s.2 n).2.2, (spTakeB b s.2 n).2.1))) else ([], s)
def spDLong (n : Int) (s : DeS) : DeS := if 255 < n then (4, s.2) else s
def spDText (b : List Int) (n : Int) (s : DeS) : List Int × DeS := if (spUtf (spDTake b n (spDLong n s)).1).2 = true then spDTake b n (spDLong n s) else ([], (6, (spDTake b n (spDLong n s)).2.2))
theorem spRok_of {b : List Int} {p : Int} (h : spDok b p = true) : spRok b p = true := by
  simp only [spDok, spRok, Bool.and_eq_true, decide_eq_true_eq] at h ⊢
  exact ⟨by omega, h.2⟩
theorem spRd_ok {b : List Int} {p : Int} (n : Nat) (h : spDok b p = true) : spDok b (spRd b p n).2.1 = true := by
  unfold spRd
  split
  · exact h
  · simp only [spDok, Bool.and_eq_true, decide_eq_true_eq] at h ⊢
    exact ⟨h.1, by omega, by omega⟩
theorem spTakeB_ok {b : List Int} {p : Int} (n : Int) (h : spDok b p = true) : spDok b (spTakeB b p n).2.1 = true := by
  unfold spTakeB
  split
  · exact h
  · split
    · exact h
    · simp only [spDok, Bool.and_eq_true, decide_eq_true_eq] at h ⊢
      exact ⟨h.1, by omega, by omega⟩
theorem spDn_ok {b : List Int} {s : DeS} (k : IntKind) (n : Nat) (h : spDok b s.2 = true) : spDok b (spDn k n b s).2.2 = true := by
  unfold spDn
  split
  · exact spRd_ok n h
  · exact h
theorem spDn_i16 (b : List Int) (n : Nat) (s : DeS) : IntKind.i64.wrap (spDn .i16 n b s).1 = (spDn .i16 n b s).1 := by
  unfold spDn
  split
  · have h := inR_wrap .i16 (spRd b s.2 n).1
    simp only [inR, IntKind.min, IntKind.max, IntKind.signed, IntKind.bits] at h
    exact wrap_i64 (by simp at h; omega) (by simp at h; omega)
  · rfl
theorem spDTake_ok {b : List Int} {s : DeS} (n : Int) (h : spDok b s.2 = true) : spDok b (spDTake b n s).2.2 = true := by
  unfold spDTake
  split
  · split
    · exact h
    · exact spTakeB_ok n h
  · exact h
theorem spDLong_ok {b : List Int} {s : DeS} (n : Int) (h : spDok b s.2 = true) : spDok b (spDLong n s).2 = true := by
  unfold spDLong
  split <;> exact h
theorem spDText_ok {b : List Int} {s : DeS} (n : Int) (h : spDok b s.2 = true) : spDok b (spDText b n s).2.2 = true := by
  unfold spDText
  split
  · exact spDTake_ok n (spDLong_ok n h)
  · exact spDTake_ok n (spDLong_ok n h)
abbrev iodN16 : Io := ⟨[.ptr 0 0, .fnc 152 true [1]], oDec, [], [d16], none⟩
def FdN16 (d : iodN16.In) : Tr iodN16.Res := .ite (decOk d.2) (.ret (.ret ((IntKind.i16.wrap (spRd d.2.2.1.1 d.2.2.1.2.1 2).1, ()), decOut d.2.1.2.1 d.2.2.1.1 ((spRd d.2.2.1.1 d.2.2.1.2.1 2).2.2, (spRd d.2.2.1.1 d.2.2.1.2.1 2).2.1)))) .no
abbrev csdN16 : List (Nat × Hc) := [(152, ioHd iordI16 FrdI16)]
def hddN16 : Hd := hdT csdN16
def lpdN16 : Lp := lpT []
def bodydN16 (a0 : Int) (a1 : Int) (a2 : List Int) (a3 : Int) : Option iodN16.Res := bif spRok a2 a3 then some (Out.ret ((IntKind.i16.wrap (spRd a2 a3 2).fst, ()), ((), a0, (spRd a2 a3 2).snd.snd, ()), (a2, (spRd a2 a3 2).snd.fst, ()), ())) else none
theorem rundN16 (a0 : Int) (a1 : Int) (a2 : List Int) (a3 : Int) : Io.run tt hddN16 dr lpdN16 iodN16 Go.Proofs.Tryz.f151 (((), (), ()), ((), a0, a1, ()), (a2, a3, ()), ()) = bodydN16 a0 a1 a2 a3 := by kernel_rfl
theorem okdN16 : HcOk prog 151 (ioHd iodN16 FdN16) := by
  refine fn_sound (n := 400) hm (cs := csdN16) (.cons okrdI16 .nil) (lp := lpdN16) (fn := Go.Proofs.Tryz.f151) (by kernel_rfl) (by kernel_rfl) (by kernel_rfl) iodN16 (.done (by kernel_rfl)) FdN16 ?_
  rintro ⟨⟨⟨⟩, ⟨⟩, ⟨⟩⟩, ⟨⟨⟩, (v : Int), (e : Int), ⟨⟩⟩, ⟨(b : List Int), (p : Int), ⟨⟩⟩, ⟨⟩⟩ out hw ho
  obtain ⟨hg, ho⟩ := Tr.guard ho
  have hg : spDok b p = true := hg
  cases ho
  refine (rundN16 v e b p).trans ?_
  unfold bodydN16
  exact bif_true (spRok_of hg) _ _
abbrev iodN32 : Io := ⟨[.ptr 0 0, .fnc 149 true [1]], oDec, [], [dS32], none⟩
def FdN32 (d : iodN32.In) : Tr iodN32.Res := .ite (decOk d.2) (.ret (.ret ((IntKind.i32.wrap (spRd d.2.2.1.1 d.2.2.1.2.1 4).1, ()), decOut d.2.1.2.1 d.2.2.1.1 ((spRd d.2.2.1.1 d.2.2.1.2.1 4).2.2, (spRd d.2.2.1.1 d.2.2.1.2.1 4).2.1)))) .no
abbrev csdN32 : List (Nat × Hc) := [(149, ioHd iordI32 FrdI32)]
def hddN32 : Hd := hdT csdN32
def lpdN32 : Lp := lpT []
def bodydN32 (a0 : Int) (a1 : Int) (a2 : List Int) (a3 : Int) : Option iodN32.Res := bif spRok a2 a3 then some (Out.ret ((IntKind.i32.wrap (spRd a2 a3 4).fst, ()), ((), a0, (spRd a2 a3 4).snd.snd, ()), (a2, (spRd a2 a3 4).snd.fst, ()), ())) else none
theorem rundN32 (a0 : Int) (a1 : Int) (a2 : List Int) (a3 : Int) : Io.run tt hddN32 dr lpdN32 iodN32 Go.Proofs.Tryz.f148 (((), (), ()), ((), a0, a1, ()), (a2, a3, ()), ()) = bodydN32 a0 a1 a2 a3 := by kernel_rfl
theorem okdN32 : HcOk prog 148 (ioHd iodN32 FdN32) := by
  refine fn_sound (n := 400) hm (cs := csdN32) (.cons okrdI32 .nil) (lp := lpdN32) (fn := Go.Proofs.Tryz.f148) (by kernel_rfl) (by kernel_rfl) (by kernel_rfl) iodN32 (.done (by kernel_rfl)) FdN32 ?_
  rintro ⟨⟨⟨⟩, ⟨⟩, ⟨⟩⟩, ⟨⟨⟩, (v : Int), (e : Int), ⟨⟩⟩, ⟨(b : List Int), (p : Int), ⟨⟩⟩, ⟨⟩⟩ out hw ho
  obtain ⟨hg, ho⟩ := Tr.guard ho
  have hg : spDok b p = true := hg
  cases ho
  refine (rundN32 v e b p).trans ?_
  unfold bodydN32
  exact bif_true (spRok_of hg) _ _
abbrev iodN64 : Io := ⟨[.ptr 0 0, .fnc 154 true [1]], oDec, [], [d64s], none⟩
def FdN64 (d : iodN64.In) : Tr iodN64.Res := .ite (decOk d.2) (.ret (.ret ((IntKind.i64.wrap (spRd d.2.2.1.1 d.2.2.1.2.1 8).1, ()), decOut d.2.1.2.1 d.2.2.1.1 ((spRd d.2.2.1.1 d.2.2.1.2.1 8).2.2, (spRd d.2.2.1.1 d.2.2.1.2.1 8).2.1)))) .no
abbrev csdN64 : List (Nat × Hc) := [(154, ioHd iordI64 FrdI64)]
def hddN64 : Hd := hdT csdN64
def lpdN64 : Lp := lpT []
def bodydN64 (a0 : Int) (a1 : Int) (a2 : List Int) (a3 : Int) : Option iodN64.Res := bif spRok a2 a3 then some (Out.ret ((IntKind.i64.wrap (spRd a2 a3 8).fst, ()), ((), a0, (spRd a2 a3 8).snd.snd, ()), (a2, (spRd a2 a3 8).snd.fst, ()), ())) else none
theorem rundN64 (a0 : Int) (a1 : Int) (a2 : List Int) (a3 : Int) : Io.run tt hddN64 dr lpdN64 iodN64 Go.Proofs.Tryz.f153 (((), (), ()), ((), a0, a1, ()), (a2, a3, ()), ()) = bodydN64 a0 a1 a2 a3 := by kernel_rfl
theorem okdN64 : HcOk prog 153 (ioHd iodN64 FdN64) := by
  refine fn_sound (n := 400) hm (cs := csdN64) (.cons okrdI64 .nil) (lp := lpdN64) (fn := Go.Proofs.Tryz.f153) (by kernel_rfl) (by kernel_rfl) (by kernel_rfl) iodN64 (.done (by kernel_rfl)) FdN64 ?_
  rintro ⟨⟨⟨⟩, ⟨⟩, ⟨⟩⟩, ⟨⟨⟩, (v : Int), (e : Int), ⟨⟩⟩, ⟨(b : List Int), (p : Int), ⟨⟩⟩, ⟨⟩⟩ out hw ho
  obtain ⟨hg, ho⟩ := Tr.guard ho
  have hg : spDok b p = true := hg
  cases ho
  refine (rundN64 v e b p).trans ?_
  unfold bodydN64
  exact bif_true (spRok_of hg) _ _
abbrev iodTk : Io := ⟨[.ptr 0 0, .ptr 1 0], oDecT, [], [dO, dI], none⟩
def FdTk (d : iodTk.In) : Tr iodTk.Res := .ite (spDok d.2.2.2.2.1.1 d.2.2.2.2.1.2.1) (.ret (.ret (((spTakeB d.2.2.2.2.1.1 d.2.2.2.2.1.2.1 d.2.2.1.1).1, ((spTakeB d.2.2.2.2.1.1 d.2.2.2.2.1.2.1 d.2.2.1.1).2.2, ())), (((), ()), (d.2.2.1, (d.2.2.2.1, ((d.2.2.2.2.1.1, ((spTakeB d.2.2.2.2.1.1 d.2.2.2.2.1.2.1 d.2.2.1.1).2.1, ())), ()))))))) .no
abbrev csdTk : List (Nat × Hc) := [(182, ioHd iordTake FrdTake)]
def hddTk : Hd := hdT csdTk
def lpdTk : Lp := lpT []
def bodydTk (a0 : Int) (a1 : Int) (a2 : Int) (a3 : List Int) (a4 : Int) : Option iodTk.Res := bif spRok a3 a4 then some (Out.ret (((spTakeB a3 a4 a0).fst, (spTakeB a3 a4 a0).snd.snd, ()), ((), ()), (a0, ()), ((), a1, a2, ()), (a3, (spTakeB a3 a4 a0).snd.fst, ()), ())) else none
theorem rundTk (a0 : Int) (a1 : Int) (a2 : Int) (a3 : List Int) (a4 : Int) : Io.run tt hddTk dr lpdTk iodTk Go.Proofs.Tryz.f181 (((), (), ()), ((), ()), (a0, ()), ((), a1, a2, ()), (a3, a4, ()), ()) = bodydTk a0 a1 a2 a3 a4 := by kernel_rfl
theorem okdTk : HcOk prog 181 (ioHd iodTk FdTk) := by
  refine fn_sound (n := 400) hm (cs := csdTk) (.cons okrdTake .nil) (lp := lpdTk) (fn := Go.Proofs.Tryz.f181) (by kernel_rfl) (by kernel_rfl) (by kernel_rfl) iodTk (.done (by kernel_rfl)) FdTk ?_
  rintro ⟨⟨⟨⟩, ⟨⟩, ⟨⟩⟩, ⟨⟨⟩, ⟨⟩⟩, ⟨(n : Int), ⟨⟩⟩, ⟨⟨⟩, (v : Int), (e : Int), ⟨⟩⟩, ⟨(b : List Int), (p : Int), ⟨⟩⟩, ⟨⟩⟩ out hw ho
  obtain ⟨hg, ho⟩ := Tr.guard ho
  have hg : spDok b p = true := hg
  cases ho
  refine (rundTk n v e b p).trans ?_
  unfold bodydTk
  exact bif_true (spRok_of hg) _ _
abbrev iodNb : Io := ⟨[.ptr 0 0, .fnc 181 false [2, 3]], oDec2, [], [dO], none⟩
def FdNb (d : iodNb.In) : Tr iodNb.Res := .ite (spDok d.2.2.1.1 d.2.2.1.2.1) (.ret (.ret (((spTakeB d.2.2.1.1 d.2.2.1.2.1 d.2.2.2.2.1.1).1, ()), (((), (d.2.1.2.1, ((spTakeB d.2.2.1.1 d.2.2.1.2.1 d.2.2.2.2.1.1).2.2, ()))), ((d.2.2.1.1, ((spTakeB d.2.2.1.1 d.2.2.1.2.1 d.2.2.2.2.1.1).2.1, ())), (((), ()), (d.2.2.2.2.1, ()))))))) .no
abbrev csdNb : List (Nat × Hc) := [(181, ioHd iodTk FdTk)]
def hddNb : Hd := hdT csdNb
def lpdNb : Lp := lpT []
def bodydNb (a0 : Int) (a1 : Int) (a2 : List Int) (a3 : Int) (a4 : Int) : Option iodNb.Res := bif spDok a2 a3 then some (Out.ret (((spTakeB a2 a3 a4).fst, ()), ((), a0, (spTakeB a2 a3 a4).snd.snd, ()), (a2, (spTakeB a2 a3 a4).snd.fst, ()), ((), ()), (a4, ()), ())) else none
theorem rundNb (a0 : Int) (a1 : Int) (a2 : List Int) (a3 : Int) (a4 : Int) : Io.run tt hddNb dr lpdNb iodNb Go.Proofs.Tryz.f180 (((), (), ()), ((), a0, a1, ()), (a2, a3, ()), ((), ()), (a4, ()), ()) = bodydNb a0 a1 a2 a3 a4 := by kernel_rfl
theorem okdNb : HcOk prog 180 (ioHd iodNb FdNb) := by
  refine fn_sound (n := 400) hm (cs := csdNb) (.cons okdTk .nil) (lp := lpdNb) (fn := Go.Proofs.Tryz.f180) (by kernel_rfl) (by kernel_rfl) (by kernel_rfl) iodNb (.done (by kernel_rfl)) FdNb ?_
  rintro ⟨⟨⟨⟩, ⟨⟩, ⟨⟩⟩, ⟨⟨⟩, (v : Int), (e : Int), ⟨⟩⟩, ⟨(b : List Int), (p : Int), ⟨⟩⟩, ⟨⟨⟩, ⟨⟩⟩, ⟨(n : Int), ⟨⟩⟩, ⟨⟩⟩ out hw ho
  obtain ⟨hg, ho⟩ := Tr.guard ho
  have hg : spDok b p = true := hg
  cases ho
  refine (rundNb v e b p n).trans ?_
  unfold bodydNb
  exact bif_true hg _ _
abbrev iodI16 : Io := ⟨[.ptr 0 0], oDec, [], [d16], none⟩
def FdI16 (d : iodI16.In) : Tr iodI16.Res := .ite (decOk d.2) (.ret (.ret (((spDn .i16 2 d.2.2.1.1 (decSt d.2)).1, ()), decOut d.2.1.2.1 d.2.2.1.1 (spDn .i16 2 d.2.2.1.1 (decSt d.2)).2))) .no
abbrev csdI16 : List (Nat × Hc) := [(151, ioHd iodN16 FdN16)]
def hddI16 : Hd := hdT csdI16
def lpdI16 : Lp := lpT []
def bodydI16 (a0 : Int) (a1 : Int) (a2 : List Int) (a3 : Int) : Option iodI16.Res := bif a1 != 0 then some (Out.ret ((0, ()), ((), a0, a1, ()), (a2, a3, ()), ())) else bif spDok a2 a3 then some (Out.ret ((IntKind.i16.wrap (spRd a2 a3 2).fst, ()), ((), a0, (spRd a2 a3 2).snd.snd, ()), (a2, (spRd a2 a3 2).snd.fst, ()), ())) else none
theorem rundI16 (a0 : Int) (a1 : Int) (a2 : List Int) (a3 : Int) : Io.run tt hddI16 dr lpdI16 iodI16 Go.Proofs.Tryz.f87 (((), ()), ((), a0, a1, ()), (a2, a3, ()), ()) = bodydI16 a0 a1 a2 a3 := by kernel_rfl
theorem okdI16 : HcOk prog 87 (ioHd iodI16 FdI16) := by
  refine fn_sound (n := 400) hm (cs := csdI16) (.cons okdN16 .nil) (lp := lpdI16) (fn := Go.Proofs.Tryz.f87) (by kernel_rfl) (by kernel_rfl) (by kernel_rfl) iodI16 (.done (by kernel_rfl)) FdI16 ?_
  rintro ⟨⟨⟨⟩, ⟨⟩⟩, ⟨⟨⟩, (v : Int), (e : Int), ⟨⟩⟩, ⟨(b : List Int), (p : Int), ⟨⟩⟩, ⟨⟩⟩ out hw ho
  obtain ⟨hg, ho⟩ := Tr.guard ho
  have hg : spDok b p = true := hg
  cases ho
  refine (rundI16 v e b p).trans ?_
  unfold bodydI16
  show _ = some (Out.ret (((spDn .i16 2 b (e, p)).1, ()), decOut v b (spDn .i16 2 b (e, p)).2))
  unfold spDn
  by_cases h : e = 0
  · rw [if_pos h]
    refine (bif_false (by simpa using h) _ _).trans ?_
    exact bif_true hg _ _
  · rw [if_neg h]
    exact bif_true (by simpa using h) _ _
abbrev iodI32 : Io := ⟨[.ptr 0 0], oDec, [], [dS32], none⟩
def FdI32 (d : iodI32.In) : Tr iodI32.Res := .ite (decOk d.2) (.ret (.ret (((spDn .i32 4 d.2.2.1.1 (decSt d.2)).1, ()), decOut d.2.1.2.1 d.2.2.1.1 (spDn .i32 4 d.2.2.1.1 (decSt d.2)).2))) .no
abbrev csdI32 : List (Nat × Hc) := [(148, ioHd iodN32 FdN32)]
def hddI32 : Hd := hdT csdI32
def lpdI32 : Lp := lpT []
def bodydI32 (a0 : Int) (a1 : Int) (a2 : List Int) (a3 : Int) : Option iodI32.Res := bif a1 != 0 then some (Out.ret ((0, ()), ((), a0, a1, ()), (a2, a3, ()), ())) else bif spDok a2 a3 then some (Out.ret ((IntKind.i32.wrap (spRd a2 a3 4).fst, ()), ((), a0, (spRd a2 a3 4).snd.snd, ()), (a2, (spRd a2 a3 4).snd.fst, ()), ())) else none
theorem rundI32 (a0 : Int) (a1 : Int) (a2 : List Int) (a3 : Int) : Io.run tt hddI32 dr lpdI32 iodI32 Go.Proofs.Tryz.f81 (((), ()), ((), a0, a1, ()), (a2, a3, ()), ()) = bodydI32 a0 a1 a2 a3 := by kernel_rfl
theorem okdI32 : HcOk prog 81 (ioHd iodI32 FdI32) := by
  refine fn_sound (n := 400) hm (cs := csdI32) (.cons okdN32 .nil) (lp := lpdI32) (fn := Go.Proofs.Tryz.f81) (by kernel_rfl) (by kernel_rfl) (by kernel_rfl) iodI32 (.done (by kernel_rfl)) FdI32 ?_
  rintro ⟨⟨⟨⟩, ⟨⟩⟩, ⟨⟨⟩, (v : Int), (e : Int), ⟨⟩⟩, ⟨(b : List Int), (p : Int), ⟨⟩⟩, ⟨⟩⟩ out hw ho
  obtain ⟨hg, ho⟩ := Tr.guard ho
  have hg : spDok b p = true := hg
  cases ho
  refine (rundI32 v e b p).trans ?_
  unfold bodydI32
  show _ = some (Out.ret (((spDn .i32 4 b (e, p)).1, ()), decOut v b (spDn .i32 4 b (e, p)).2))
  unfold spDn
  by_cases h : e = 0
  · rw [if_pos h]
    refine (bif_false (by simpa using h) _ _).trans ?_
    exact bif_true hg _ _
  · rw [if_neg h]
    exact bif_true (by simpa using h) _ _
abbrev iodI64 : Io := ⟨[.ptr 0 0], oDec, [], [d64s], none⟩
def FdI64 (d : iodI64.In) : Tr iodI64.Res := .ite (decOk d.2) (.ret (.ret (((spDn .i64 8 d.2.2.1.1 (decSt d.2)).1, ()), decOut d.2.1.2.1 d.2.2.1.1 (spDn .i64 8 d.2.2.1.1 (decSt d.2)).2))) .no
abbrev csdI64 : List (Nat × Hc) := [(153, ioHd iodN64 FdN64)]
def hddI64 : Hd := hdT csdI64
def lpdI64 : Lp := lpT []
def bodydI64 (a0 : Int) (a1 : Int) (a2 : List Int) (a3 : Int) : Option iodI64.Res := bif a1 != 0 then some (Out.ret ((0, ()), ((), a0, a1, ()), (a2, a3, ()), ())) else bif spDok a2 a3 then some (Out.ret ((IntKind.i64.wrap (spRd a2 a3 8).fst, ()), ((), a0, (spRd a2 a3 8).snd.snd, ()), (a2, (spRd a2 a3 8).snd.fst, ()), ())) else none
theorem rundI64 (a0 : Int) (a1 : Int) (a2 : List Int) (a3 : Int) : Io.run tt hddI64 dr lpdI64 iodI64 Go.Proofs.Tryz.f89 (((), ()), ((), a0, a1, ()), (a2, a3, ()), ()) = bodydI64 a0 a1 a2 a3 := by kernel_rfl
theorem okdI64 : HcOk prog 89 (ioHd iodI64 FdI64) := by
  refine fn_sound (n := 400) hm (cs := csdI64) (.cons okdN64 .nil) (lp := lpdI64) (fn := Go.Proofs.Tryz.f89) (by kernel_rfl) (by kernel_rfl) (by kernel_rfl) iodI64 (.done (by kernel_rfl)) FdI64 ?_
  rintro ⟨⟨⟨⟩, ⟨⟩⟩, ⟨⟨⟩, (v : Int), (e : Int), ⟨⟩⟩, ⟨(b : List Int), (p : Int), ⟨⟩⟩, ⟨⟩⟩ out hw ho
  obtain ⟨hg, ho⟩ := Tr.guard ho
  have hg : spDok b p = true := hg
  cases ho
  refine (rundI64 v e b p).trans ?_
  unfold bodydI64
  show _ = some (Out.ret (((spDn .i64 8 b (e, p)).1, ()), decOut v b (spDn .i64 8 b (e, p)).2))
  unfold spDn
  by_cases h : e = 0
  · rw [if_pos h]
    refine (bif_false (by simpa using h) _ _).trans ?_
    exact bif_true hg _ _
  · rw [if_neg h]
    exact bif_true (by simpa using h) _ _
abbrev iodTake : Io := ⟨[.ptr 0 0, dI], oDec, [], [dO], none⟩
def FdTake (d : iodTake.In) : Tr iodTake.Res := .ite (decOk d.2) (.ret (.ret (((spDTake d.2.2.1.1 d.1.2.1 (decSt d.2)).1, ()), decOut d.2.1.2.1 d.2.2.1.1 (spDTake d.2.2.1.1 d.1.2.1 (decSt d.2)).2))) .no
abbrev csdTake : List (Nat × Hc) := [(180, ioHd iodNb FdNb)]
def hddTake : Hd := hdT csdTake
def lpdTake : Lp := lpT []
def bodydTake (a0 : Int) (a1 : Int) (a2 : Int) (a3 : List Int) (a4 : Int) : Option iodTake.Res := bif a2 == 0 then bif decide (a0 < 0) then some (Out.ret (([], ()), ((), a1, 5, ()), (a3, a4, ()), ())) else bif a2 != 0 then some (Out.ret (([], ()), ((), a1, a2, ()), (a3, a4, ()), ())) else bif spDok a3 a4 then some (Out.ret (((spTakeB a3 a4 a0).fst, ()), ((), a1, (spTakeB a3 a4 a0).snd.snd, ()), (a3, (spTakeB a3 a4 a0).snd.fst, ()), ())) else none else bif a2 != 0 then some (Out.ret (([], ()), ((), a1, a2, ()), (a3, a4, ()), ())) else bif spDok a3 a4 then some (Out.ret (((spTakeB a3 a4 a0).fst, ()), ((), a1, (spTakeB a3 a4 a0).snd.snd, ()), (a3, (spTakeB a3 a4 a0).snd.fst, ()), ())) else none
theorem rundTake (a0 : Int) (a1 : Int) (a2 : Int) (a3 : List Int) (a4 : Int) : Io.run tt hddTake dr lpdTake iodTake Go.Proofs.Tryz.f159 (((), a0, ()), ((), a1, a2, ()), (a3, a4, ()), ()) = bodydTake a0 a1 a2 a3 a4 := by kernel_rfl
theorem okdTake : HcOk prog 159 (ioHd iodTake FdTake) := by
  refine fn_sound (n := 400) hm (cs := csdTake) (.cons okdNb .nil) (lp := lpdTake) (fn := Go.Proofs.Tryz.f159) (by kernel_rfl) (by kernel_rfl) (by kernel_rfl) iodTake (.done (by kernel_rfl)) FdTake ?_
  rintro ⟨⟨⟨⟩, (n : Int), ⟨⟩⟩, ⟨⟨⟩, (v : Int), (e : Int), ⟨⟩⟩, ⟨(b : List Int), (p : Int), ⟨⟩⟩, ⟨⟩⟩ out hw ho
  obtain ⟨hg, ho⟩ := Tr.guard ho
  have hg : spDok b p = true := hg
  cases ho
  refine (rundTake n v e b p).trans ?_
  unfold bodydTake
  show _ = some (Out.ret (((spDTake b n (e, p)).1, ()), decOut v b (spDTake b n (e, p)).2))
  unfold spDTake
  by_cases h : e = 0
  · rw [if_pos h]
    refine (bif_true (by simpa using h) _ _).trans ?_
    by_cases h2 : n < 0
    · rw [if_pos h2]
      exact bif_true (by simpa using h2) _ _
    · rw [if_neg h2]
      refine (bif_false (by simpa using h2) _ _).trans ?_
      refine (bif_false (by simpa using h) _ _).trans ?_
      exact bif_true hg _ _
  · rw [if_neg h]
    refine (bif_false (by simpa using h) _ _).trans ?_
    exact bif_true (by simpa using h) _ _
abbrev iodI16Z : Io := ⟨[.ptr 0 0], oDecZ, [], [d16], none⟩
def FdI16Z (d : iodI16Z.In) : Tr iodI16Z.Res := .ite (decide (d.2.1.2.2.1 ≠ 0)) (.ret (.ret ((0, ()), d.2))) .no
abbrev csdI16Z : List (Nat × Hc) := []
def hddI16Z : Hd := hdT csdI16Z
def lpdI16Z : Lp := lpT []
def bodydI16Z (a0 : Int) (a1 : Int) : Option iodI16Z.Res := bif a1 != 0 then some (Out.ret ((0, ()), ((), a0, a1, ()), ())) else none
theorem rundI16Z (a0 : Int) (a1 : Int) : Io.run tt hddI16Z dr lpdI16Z iodI16Z Go.Proofs.Tryz.f87 (((), ()), ((), a0, a1, ()), ()) = bodydI16Z a0 a1 := by kernel_rfl
theorem okdI16Z : HcOk prog 87 (ioHd iodI16Z FdI16Z) := by
  refine fn_sound (n := 400) hm (cs := csdI16Z) HcsOk.nil (lp := lpdI16Z) (fn := Go.Proofs.Tryz.f87) (by kernel_rfl) (by kernel_rfl) (by kernel_rfl) iodI16Z (.done (by kernel_rfl)) FdI16Z ?_
  rintro ⟨⟨⟨⟩, ⟨⟩⟩, ⟨⟨⟩, (v : Int), (e : Int), ⟨⟩⟩, ⟨⟩⟩ out hw ho
  obtain ⟨hg, ho⟩ := Tr.guard ho
  have hg : e ≠ 0 := of_decide_eq_true hg
  cases ho
  refine (rundI16Z v e).trans ?_
  unfold bodydI16Z
  exact bif_true (by simpa using hg) _ _
abbrev iodI32Z : Io := ⟨[.ptr 0 0], oDecZ, [], [dS32], none⟩
def FdI32Z (d : iodI32Z.In) : Tr iodI32Z.Res := .ite (decide (d.2.1.2.2.1 ≠ 0)) (.ret (.ret ((0, ()), d.2))) .no
abbrev csdI32Z : List (Nat × Hc) := []
def hddI32Z : Hd := hdT csdI32Z
def lpdI32Z : Lp := lpT []
def bodydI32Z (a0 : Int) (a1 : Int) : Option iodI32Z.Res := bif a1 != 0 then some (Out.ret ((0, ()), ((), a0, a1, ()), ())) else none
theorem rundI32Z (a0 : Int) (a1 : Int) : Io.run tt hddI32Z dr lpdI32Z iodI32Z Go.Proofs.Tryz.f81 (((), ()), ((), a0, a1, ()), ()) = bodydI32Z a0 a1 := by kernel_rfl
theorem okdI32Z : HcOk prog 81 (ioHd iodI32Z FdI32Z) := by
  refine fn_sound (n := 400) hm (cs := csdI32Z) HcsOk.nil (lp := lpdI32Z) (fn := Go.Proofs.Tryz.f81) (by kernel_rfl) (by kernel_rfl) (by kernel_rfl) iodI32Z (.done (by kernel_rfl)) FdI32Z ?_
  rintro ⟨⟨⟨⟩, ⟨⟩⟩, ⟨⟨⟩, (v : Int), (e : Int), ⟨⟩⟩, ⟨⟩⟩ out hw ho
  obtain ⟨hg, ho⟩ := Tr.guard ho
  have hg : e ≠ 0 := of_decide_eq_true hg
  cases ho
  refine (rundI32Z v e).trans ?_
  unfold bodydI32Z
  exact bif_true (by simpa using hg) _ _
abbrev iodTakeZ : Io := ⟨[.ptr 0 0, dI], oDecZ, [], [dO], none⟩
def FdTakeZ (d : iodTakeZ.In) : Tr iodTakeZ.Res := .ite (decide (d.2.1.2.2.1 ≠ 0)) (.ret (.ret ((([] : List Int), ()), d.2))) .no
abbrev csdTakeZ : List (Nat × Hc) := []
def hddTakeZ : Hd := hdT csdTakeZ
def lpdTakeZ : Lp := lpT []
def bodydTakeZ (a0 : Int) (a1 : Int) (a2 : Int) : Option iodTakeZ.Res := bif a2 == 0 then bif decide (a0 < 0) then some (Out.ret (([], ()), ((), a1, 5, ()), ())) else bif a2 != 0 then some (Out.ret (([], ()), ((), a1, a2, ()), ())) else none else bif a2 != 0 then some (Out.ret (([], ()), ((), a1, a2, ()), ())) else none
theorem rundTakeZ (a0 : Int) (a1 : Int) (a2 : Int) : Io.run tt hddTakeZ dr lpdTakeZ iodTakeZ Go.Proofs.Tryz.f159 (((), a0, ()), ((), a1, a2, ()), ()) = bodydTakeZ a0 a1 a2 := by kernel_rfl
theorem okdTakeZ : HcOk prog 159 (ioHd iodTakeZ FdTakeZ) := by
  refine fn_sound (n := 400) hm (cs := csdTakeZ) HcsOk.nil (lp := lpdTakeZ) (fn := Go.Proofs.Tryz.f159) (by kernel_rfl) (by kernel_rfl) (by kernel_rfl) iodTakeZ (.done (by kernel_rfl)) FdTakeZ ?_
  rintro ⟨⟨⟨⟩, (n : Int), ⟨⟩⟩, ⟨⟨⟩, (v : Int), (e : Int), ⟨⟩⟩, ⟨⟩⟩ out hw ho
  obtain ⟨hg, ho⟩ := Tr.guard ho
  have hg : e ≠ 0 := of_decide_eq_true hg
  cases ho
  refine (rundTakeZ n v e).trans ?_
  unfold bodydTakeZ
  refine (bif_false (by simpa using hg) _ _).trans ?_
  exact bif_true (by simpa using hg) _ _
abbrev iodText : Io := ⟨[.ptr 0 0, dI], oDec, [], [.dat .str false false], none⟩
def FdText (d : iodText.In) : Tr iodText.Res := .ite (decOk d.2) (.ret (.ret (((spDText d.2.2.1.1 d.1.2.1 (decSt d.2)).1, ()), decOut d.2.1.2.1 d.2.2.1.1 (spDText d.2.2.1.1 d.1.2.1 (decSt d.2)).2))) .no
abbrev csdText : List (Nat × Hc) := [(159, orHd deadB (ioHd iodTakeZ FdTakeZ) (ioHd iodTake FdTake)), (141, ioHd iopUtf FpUtf)]
def hddText : Hd := hdT csdText
def lpdText : Lp := lpT []
def bodydText (a0 : Int) (a1 : Int) (a2 : Int) (a3 : List Int) (a4 : Int) : Option iodText.Res := bif decide (255 < a0) then bif spDok a3 a4 then some (Out.ret (([], ()), ((), a1, 4, ()), (a3, a4, ()), ())) else none else bif spDok a3 a4 then bif !(spUtf (spDTake a3 a0 (a2, a4)).fst).snd then some (Out.ret ((List.map (fun (c : UInt8) => (↑c.toNat : Int)) [], ()), ((), a1, 6, ()), (a3, (spDTake a3 a0 (a2, a4)).snd.snd, ()), ())) else some (Out.ret (((spDTake a3 a0 (a2, a4)).fst, ()), ((), a1, (spDTake a3 a0 (a2, a4)).snd.fst, ()), (a3, (spDTake a3 a0 (a2, a4)).snd.snd, ()), ())) else none
theorem rundText (a0 : Int) (a1 : Int) (a2 : Int) (a3 : List Int) (a4 : Int) : Io.run tt hddText dr lpdText iodText Go.Proofs.Tryz.f150 (((), a0, ()), ((), a1, a2, ()), (a3, a4, ()), ()) = bodydText a0 a1 a2 a3 a4 := by kernel_rfl
theorem okdText : HcOk prog 150 (ioHd iodText FdText) := by
  refine fn_sound (n := 400) hm (cs := csdText) (.cons (or_sound okdTakeZ okdTake) (.cons okpUtf .nil)) (lp := lpdText) (fn := Go.Proofs.Tryz.f150) (by kernel_rfl) (by kernel_rfl) (by kernel_rfl) iodText (.done (by kernel_rfl)) FdText ?_
  rintro ⟨⟨⟨⟩, (n : Int), ⟨⟩⟩, ⟨⟨⟩, (v : Int), (e : Int), ⟨⟩⟩, ⟨(b : List Int), (p : Int), ⟨⟩⟩, ⟨⟩⟩ out hw ho
  obtain ⟨hg, ho⟩ := Tr.guard ho
  have hg : spDok b p = true := hg
  cases ho
  refine (rundText n v e b p).trans ?_
  unfold bodydText
  show _ = some (Out.ret (((spDText b n (e, p)).1, ()), decOut v b (spDText b n (e, p)).2))
  unfold spDText spDLong
  by_cases h : 255 < n
  · rw [if_pos h]
    refine (bif_true (by simpa using h) _ _).trans ?_
    refine (bif_true hg _ _).trans ?_
    have e1 : spDTake b n (4, p) = ([], (4, p)) := rfl
    rw [e1, if_pos (by rfl)]
  · rw [if_neg h]
    refine (bif_false (by simpa using h) _ _).trans ?_
    refine (bif_true hg _ _).trans ?_
    cases hu : (spUtf (spDTake b n (e, p)).1).2
    · rw [if_neg (by simp)]
      rfl
    · rw [if_pos rfl]
      rfl
abbrev iodTextZ : Io := ⟨[.ptr 0 0, dI], oDecZ, [], [.dat .str false false], none⟩
def FdTextZ (d : iodTextZ.In) : Tr iodTextZ.Res := .ite (decide (d.2.1.2.2.1 ≠ 0) && decide (d.1.2.1 ≤ 255)) (.ret (.ret ((([] : List Int), ()), d.2))) .no
abbrev csdTextZ : List (Nat × Hc) := [(159, orHd deadB (ioHd iodTakeZ FdTakeZ) (ioHd iodTake FdTake)), (141, ioHd iopUtf FpUtf)]
def hddTextZ : Hd := hdT csdTextZ
def lpdTextZ : Lp := lpT []
def bodydTextZ (a0 : Int) (a1 : Int) (a2 : Int) : Option iodTextZ.Res := bif decide (255 < a0) then some (Out.ret (([], ()), ((), a1, 4, ()), ())) else bif decide (a2 ≠ 0) then some (Out.ret (([], ()), ((), a1, a2, ()), ())) else none
theorem rundTextZ (a0 : Int) (a1 : Int) (a2 : Int) : Io.run tt hddTextZ dr lpdTextZ iodTextZ Go.Proofs.Tryz.f150 (((), a0, ()), ((), a1, a2, ()), ()) = bodydTextZ a0 a1 a2 := by kernel_rfl
theorem okdTextZ : HcOk prog 150 (ioHd iodTextZ FdTextZ) := by
  refine fn_sound (n := 400) hm (cs := csdTextZ) (.cons (or_sound okdTakeZ okdTake) (.cons okpUtf .nil)) (lp := lpdTextZ) (fn := Go.Proofs.Tryz.f150) (by kernel_rfl) (by kernel_rfl) (by kernel_rfl) iodTextZ (.done (by kernel_rfl)) FdTextZ ?_
  rintro ⟨⟨⟨⟩, (n : Int), ⟨⟩⟩, ⟨⟨⟩, (v : Int), (e : Int), ⟨⟩⟩, ⟨⟩⟩ out hw ho
  obtain ⟨hg, ho⟩ := Tr.guard ho
  obtain ⟨hg, h2⟩ := Bool.and_eq_true_iff.1 hg
  have hg : e ≠ 0 := of_decide_eq_true hg
  have h2 : n ≤ 255 := of_decide_eq_true h2
  cases ho
  refine (rundTextZ n v e).trans ?_
  unfold bodydTextZ
  refine (bif_false (by simp; omega) _ _).trans ?_
  exact bif_true (by simpa using hg) _ _
def spDStr (b : List Int) (s : DeS) : List Int × DeS := spDText b (spDn .i16 2 b s).1 (spDn .i16 2 b s).2
abbrev iodStr : Io := ⟨[.ptr 0 0], oDec, [], [.dat .str false false], none⟩
def FdStr (d : iodStr.In) : Tr iodStr.Res := .ite (decOk d.2) (.ret (.ret (((spDStr d.2.2.1.1 (decSt d.2)).1, ()), decOut d.2.1.2.1 d.2.2.1.1 (spDStr d.2.2.1.1 (decSt d.2)).2))) .no
abbrev csdStr : List (Nat × Hc) := [(87, orHd deadB (ioHd iodI16Z FdI16Z) (ioHd iodI16 FdI16)), (150, orHd deadB (ioHd iodTextZ FdTextZ) (ioHd iodText FdText))]
def hddStr : Hd := hdT csdStr
def lpdStr : Lp := lpT []
def bodydStr (a0 : Int) (a1 : Int) (a2 : List Int) (a3 : Int) : Option iodStr.Res := bif spDok a2 a3 then bif spDok a2 (spDn IntKind.i16 2 a2 (a1, a3)).snd.snd then some (Out.ret (((spDText a2 (IntKind.i64.wrap (spDn IntKind.i16 2 a2 (a1, a3)).fst) (spDn IntKind.i16 2 a2 (a1, a3)).snd).fst, ()), ((), a0, (spDText a2 (IntKind.i64.wrap (spDn IntKind.i16 2 a2 (a1, a3)).fst) (spDn IntKind.i16 2 a2 (a1, a3)).snd).snd.fst, ()), (a2, (spDText a2 (IntKind.i64.wrap (spDn IntKind.i16 2 a2 (a1, a3)).fst) (spDn IntKind.i16 2 a2 (a1, a3)).snd).snd.snd, ()), ())) else none else none
theorem rundStr (a0 : Int) (a1 : Int) (a2 : List Int) (a3 : Int) : Io.run tt hddStr dr lpdStr iodStr Go.Proofs.Tryz.f84 (((), ()), ((), a0, a1, ()), (a2, a3, ()), ()) = bodydStr a0 a1 a2 a3 := by kernel_rfl
theorem okdStr : HcOk prog 84 (ioHd iodStr FdStr) := by
  refine fn_sound (n := 400) hm (cs := csdStr) (.cons (or_sound okdI16Z okdI16) (.cons (or_sound okdTextZ okdText) .nil)) (lp := lpdStr) (fn := Go.Proofs.Tryz.f84) (by kernel_rfl) (by kernel_rfl) (by kernel_rfl) iodStr (.done (by kernel_rfl)) FdStr ?_
  rintro ⟨⟨⟨⟩, ⟨⟩⟩, ⟨⟨⟩, (v : Int), (e : Int), ⟨⟩⟩, ⟨(b : List Int), (p : Int), ⟨⟩⟩, ⟨⟩⟩ out hw ho
  obtain ⟨hg, ho⟩ := Tr.guard ho
  have hg : spDok b p = true := hg
  cases ho
  refine (rundStr v e b p).trans ?_
  unfold bodydStr
  show _ = some (Out.ret (((spDStr b (e, p)).1, ()), decOut v b (spDStr b (e, p)).2))
  rw [spDn_i16]
  refine (bif_true hg _ _).trans ?_
  exact bif_true (spDn_ok .i16 2 (s := (e, p)) hg) _ _
def spDBlob (b : List Int) (s : DeS) : tBlobT.den × DeS := if (spDn .i32 4 b s).1 = -1 then ((true, (([] : List Int), ())), (spDn .i32 4 b s).2) else ((false, ((spDTake b (spDn .i32 4 b s).1 (spDn .i32 4 b s).2).1, ())), (spDTake b (spDn .i32 4 b s).1 (spDn .i32 4 b s).2).2)
def spDHas (v lo hi e : Int) : Bool := if e = 0 ∧ lo ≤ v ∧ v ≤ hi then true else false
abbrev iodHas : Io := ⟨[.ptr 0 0, dI, dI], oDec, [], [dB], none⟩
def FdHas (d : iodHas.In) : Tr iodHas.Res := .ret (.ret ((spDHas d.2.1.2.1 d.1.2.1 d.1.2.2.1 d.2.1.2.2.1, ()), d.2))
abbrev csdHas : List (Nat × Hc) := []
def hddHas : Hd := hdT csdHas
def lpdHas : Lp := lpT []
def bodydHas (a0 : Int) (a1 : Int) (a2 : Int) (a3 : Int) (a4 : List Int) (a5 : Int) : Option iodHas.Res := bif a3 == 0 then bif decide (a0 ≤ a2) then some (Out.ret ((decide (a2 ≤ a1), ()), ((), a2, a3, ()), (a4, a5, ()), ())) else some (Out.ret ((false, ()), ((), a2, a3, ()), (a4, a5, ()), ())) else some (Out.ret ((false, ()), ((), a2, a3, ()), (a4, a5, ()), ()))
theorem rundHas (a0 : Int) (a1 : Int) (a2 : Int) (a3 : Int) (a4 : List Int) (a5 : Int) : Io.run tt hddHas dr lpdHas iodHas Go.Proofs.Tryz.f80 (((), a0, a1, ()), ((), a2, a3, ()), (a4, a5, ()), ()) = bodydHas a0 a1 a2 a3 a4 a5 := by kernel_rfl
theorem okdHas : HcOk prog 80 (ioHd iodHas FdHas) := by
  refine fn_sound (n := 400) hm (cs := csdHas) HcsOk.nil (lp := lpdHas) (fn := Go.Proofs.Tryz.f80) (by kernel_rfl) (by kernel_rfl) (by kernel_rfl) iodHas (.done (by kernel_rfl)) FdHas ?_
  rintro ⟨⟨⟨⟩, (lo : Int), (hi : Int), ⟨⟩⟩, ⟨⟨⟩, (v : Int), (e : Int), ⟨⟩⟩, ⟨(b : List Int), (p : Int), ⟨⟩⟩, ⟨⟩⟩ out hw ho
  cases ho
  refine (rundHas lo hi v e b p).trans ?_
  unfold bodydHas
  show _ = some (Out.ret ((spDHas v lo hi e, ()), decOut v b (e, p)))
  have hs : spDHas v lo hi e = ((e == 0) && (decide (lo ≤ v) && decide (v ≤ hi))) := by
    unfold spDHas
    by_cases h : e = 0 ∧ lo ≤ v ∧ v ≤ hi
    · rw [if_pos h]; simp [h]
    · rw [if_neg h]
      rw [eq_comm, Bool.eq_false_iff]
      intro h'
      simp only [Bool.and_eq_true, beq_iff_eq, decide_eq_true_eq] at h'
      exact h h'
  rw [hs]
  cases e == 0
  · rfl
  · cases decide (lo ≤ v) <;> rfl
abbrev iodHasZ : Io := ⟨[.ptr 0 0, dI, dI], oDecZ, [], [dB], none⟩
def FdHasZ (d : iodHasZ.In) : Tr iodHasZ.Res := .ite (decide (d.2.1.2.2.1 ≠ 0)) (.ret (.ret ((false, ()), d.2))) .no
abbrev csdHasZ : List (Nat × Hc) := []
def hddHasZ : Hd := hdT csdHasZ
def lpdHasZ : Lp := lpT []
def bodydHasZ (a0 : Int) (a1 : Int) (a2 : Int) (a3 : Int) : Option iodHasZ.Res := bif a3 == 0 then bif decide (a0 ≤ a2) then some (Out.ret ((decide (a2 ≤ a1), ()), ((), a2, a3, ()), ())) else some (Out.ret ((false, ()), ((), a2, a3, ()), ())) else some (Out.ret ((false, ()), ((), a2, a3, ()), ()))
theorem rundHasZ (a0 : Int) (a1 : Int) (a2 : Int) (a3 : Int) : Io.run tt hddHasZ dr lpdHasZ iodHasZ Go.Proofs.Tryz.f80 (((), a0, a1, ()), ((), a2, a3, ()), ()) = bodydHasZ a0 a1 a2 a3 := by kernel_rfl
theorem okdHasZ : HcOk prog 80 (ioHd iodHasZ FdHasZ) := by
  refine fn_sound (n := 400) hm (cs := csdHasZ) HcsOk.nil (lp := lpdHasZ) (fn := Go.Proofs.Tryz.f80) (by kernel_rfl) (by kernel_rfl) (by kernel_rfl) iodHasZ (.done (by kernel_rfl)) FdHasZ ?_
  rintro ⟨⟨⟨⟩, (lo : Int), (hi : Int), ⟨⟩⟩, ⟨⟨⟩, (v : Int), (e : Int), ⟨⟩⟩, ⟨⟩⟩ out hw ho
  obtain ⟨hg, ho⟩ := Tr.guard ho
  have hg : e ≠ 0 := of_decide_eq_true hg
  cases ho
  refine (rundHasZ lo hi v e).trans ?_
  unfold bodydHasZ
  exact bif_false (by simpa using hg) _ _
def spDEnd (b : List Int) (s : DeS) : Int := if s.1 = 0 then spEnd b s.2 else s.1
abbrev iodEnd : Io := ⟨[.ptr 0 0], oDec, [], [dI], none⟩
def FdEnd (d : iodEnd.In) : Tr iodEnd.Res := .ret (.ret ((spDEnd d.2.2.1.1 (decSt d.2), ()), (((), (d.2.1.2.1, (spDEnd d.2.2.1.1 (decSt d.2), ()))), d.2.2)))
abbrev csdEnd : List (Nat × Hc) := [(124, ioHd iordEnd FrdEnd)]
def hddEnd : Hd := hdT csdEnd
def lpdEnd : Lp := lpT []
def bodydEnd (a0 : Int) (a1 : Int) (a2 : List Int) (a3 : Int) : Option iodEnd.Res := bif a1 == 0 then some (Out.ret ((spEnd a2 a3, ()), ((), a0, spEnd a2 a3, ()), (a2, a3, ()), ())) else some (Out.ret ((a1, ()), ((), a0, a1, ()), (a2, a3, ()), ()))
theorem rundEnd (a0 : Int) (a1 : Int) (a2 : List Int) (a3 : Int) : Io.run tt hddEnd dr lpdEnd iodEnd Go.Proofs.Tryz.f90 (((), ()), ((), a0, a1, ()), (a2, a3, ()), ()) = bodydEnd a0 a1 a2 a3 := by kernel_rfl
theorem okdEnd : HcOk prog 90 (ioHd iodEnd FdEnd) := by
  refine fn_sound (n := 400) hm (cs := csdEnd) (.cons okrdEnd .nil) (lp := lpdEnd) (fn := Go.Proofs.Tryz.f90) (by kernel_rfl) (by kernel_rfl) (by kernel_rfl) iodEnd (.done (by kernel_rfl)) FdEnd ?_
  rintro ⟨⟨⟨⟩, ⟨⟩⟩, ⟨⟨⟩, (v : Int), (e : Int), ⟨⟩⟩, ⟨(b : List Int), (p : Int), ⟨⟩⟩, ⟨⟩⟩ out hw ho
  cases ho
  refine (rundEnd v e b p).trans ?_
  unfold bodydEnd
  show _ = some (Out.ret ((spDEnd b (e, p), ()), decOut v b (spDEnd b (e, p), p)))
  unfold spDEnd
  by_cases h : e = 0
  · rw [if_pos h]
    exact bif_true (by simpa using h) _ _
  · rw [if_neg h]
    exact bif_false (by simpa using h) _ _
abbrev iodEndZ : Io := ⟨[.ptr 0 0], oDecZ, [], [dI], none⟩
def FdEndZ (d : iodEndZ.In) : Tr iodEndZ.Res := .ite (decide (d.2.1.2.2.1 ≠ 0)) (.ret (.ret ((d.2.1.2.2.1, ()), d.2))) .no
abbrev csdEndZ : List (Nat × Hc) := [(124, ioHd iordEnd FrdEnd)]
def hddEndZ : Hd := hdT csdEndZ
def lpdEndZ : Lp := lpT []
def bodydEndZ (a0 : Int) (a1 : Int) : Option iodEndZ.Res := bif a1 == 0 then none else some (Out.ret ((a1, ()), ((), a0, a1, ()), ()))
theorem rundEndZ (a0 : Int) (a1 : Int) : Io.run tt hddEndZ dr lpdEndZ iodEndZ Go.Proofs.Tryz.f90 (((), ()), ((), a0, a1, ()), ()) = bodydEndZ a0 a1 := by kernel_rfl
theorem okdEndZ : HcOk prog 90 (ioHd iodEndZ FdEndZ) := by
  refine fn_sound (n := 400) hm (cs := csdEndZ) (.cons okrdEnd .nil) (lp := lpdEndZ) (fn := Go.Proofs.Tryz.f90) (by kernel_rfl) (by kernel_rfl) (by kernel_rfl) iodEndZ (.done (by kernel_rfl)) FdEndZ ?_
  rintro ⟨⟨⟨⟩, ⟨⟩⟩, ⟨⟨⟩, (v : Int), (e : Int), ⟨⟩⟩, ⟨⟩⟩ out hw ho
  obtain ⟨hg, ho⟩ := Tr.guard ho
  have hg : e ≠ 0 := of_decide_eq_true hg
  cases ho
  refine (rundEndZ v e).trans ?_
  unfold bodydEndZ
  exact bif_false (by simpa using hg) _ _
abbrev iodNew : Io := ⟨[dI, dL], [], oDec, [.ptr 0 0], none⟩
def FdNew (d : iodNew.In) : Tr iodNew.Res := .ite (decide (0 ≤ d.1.1) && (decide (d.1.1 ≤ 3) && decide ((d.1.2.1.length : Int) ≤ 130048))) (.ret (.ret (((), ()), decOut d.1.1 d.1.2.1 (0, 0)))) .no
abbrev csdNew : List (Nat × Hc) := [(122, ioHd iordNew FrdNew)]
def hddNew : Hd := hdT csdNew
def lpdNew : Lp := lpT []
def bodydNew (a0 : Int) (a1 : List Int) : Option iodNew.Res := bif decide (a0 < 0) then none else bif decide (3 < a0) then none else bif decide (130048 < (↑a1.length : Int)) then none else bif decide (a1.length ≤ 4294967296) then some (Out.ret (((), ()), ((), a0, 0, ()), (a1, 0, ()), ())) else none
theorem rundNew (a0 : Int) (a1 : List Int) : Io.run tt hddNew dr lpdNew iodNew Go.Proofs.Tryz.f79 ((a0, a1, ()), ()) = bodydNew a0 a1 := by kernel_rfl
theorem okdNew : HcOk prog 79 (ioHd iodNew FdNew) := by
  refine fn_sound (n := 400) hm (cs := csdNew) (.cons okrdNew .nil) (lp := lpdNew) (fn := Go.Proofs.Tryz.f79) (by kernel_rfl) (by kernel_rfl) (by kernel_rfl) iodNew (.done (by kernel_rfl)) FdNew ?_
  rintro ⟨⟨(v : Int), (b : List Int), ⟨⟩⟩, ⟨⟩⟩ out hw ho
  obtain ⟨hg, ho⟩ := Tr.guard ho
  simp only [Bool.and_eq_true, decide_eq_true_eq] at hg
  obtain ⟨h1, h2, h3⟩ := hg
  have h1 : (0 : Int) ≤ v := h1
  have h2 : v ≤ (3 : Int) := h2
  have h3 : (b.length : Int) ≤ 130048 := h3
  cases ho
  refine (rundNew v b).trans ?_
  unfold bodydNew
  refine (bif_false (by simp; omega) _ _).trans ?_
  refine (bif_false (by simp; omega) _ _).trans ?_
  refine (bif_false (by simp; omega) _ _).trans ?_
  exact bif_true (by simp; omega) _ _
def spNewD (v : Int) : Int := if v < 0 ∨ 3 < v then 8 else 4
abbrev iodNewZ : Io := ⟨[dI, dL], [], oDecZ, [.ptr 0 0], none⟩
def FdNewZ (d : iodNewZ.In) : Tr iodNewZ.Res := .ite (decide (0 ≤ d.1.1) && (decide (d.1.1 ≤ 3) && decide ((d.1.2.1.length : Int) ≤ 130048))) .no (.ret (.ret (((), ()), (((), (d.1.1, (spNewD d.1.1, ()))), ()))))
abbrev csdNewZ : List (Nat × Hc) := [(122, ioHd iordNew FrdNew)]
def hddNewZ : Hd := hdT csdNewZ
def lpdNewZ : Lp := lpT []
def bodydNewZ (a0 : Int) (a1 : List Int) : Option iodNewZ.Res := bif decide (a0 < 0) then some (Out.ret (((), ()), ((), a0, 8, ()), ())) else bif decide (3 < a0) then some (Out.ret (((), ()), ((), a0, 8, ()), ())) else bif decide (130048 < (↑a1.length : Int)) then some (Out.ret (((), ()), ((), a0, 4, ()), ())) else bif decide (a1.length ≤ 4294967296) then none else none
theorem rundNewZ (a0 : Int) (a1 : List Int) : Io.run tt hddNewZ dr lpdNewZ iodNewZ Go.Proofs.Tryz.f79 ((a0, a1, ()), ()) = bodydNewZ a0 a1 := by kernel_rfl
theorem okdNewZ : HcOk prog 79 (ioHd iodNewZ FdNewZ) := by
  refine fn_sound (n := 400) hm (cs := csdNewZ) (.cons okrdNew .nil) (lp := lpdNewZ) (fn := Go.Proofs.Tryz.f79) (by kernel_rfl) (by kernel_rfl) (by kernel_rfl) iodNewZ (.done (by kernel_rfl)) FdNewZ ?_
  rintro ⟨⟨(v : Int), (b : List Int), ⟨⟩⟩, ⟨⟩⟩ out hw ho
  have hg : (decide (0 ≤ v) && (decide (v ≤ 3) && decide ((b.length : Int) ≤ 130048))) = false := by
    cases hc : (decide (0 ≤ v) && (decide (v ≤ 3) && decide ((b.length : Int) ≤ 130048)))
    · rfl
    · have e1 : FdNewZ ((v, (b, ())), ()) = .ite true .no (.ret (.ret (((), ()), (((), (v, (spNewD v, ()))), ())))) := congrArg (fun c => Tr.ite c _ _) hc
      rw [e1] at ho
      cases ho
  have e1 : FdNewZ ((v, (b, ())), ()) = .ite false .no (.ret (.ret (((), ()), (((), (v, (spNewD v, ()))), ())))) := congrArg (fun c => Tr.ite c _ _) hg
  rw [e1] at ho
  cases ho
  refine (rundNewZ v b).trans ?_
  unfold bodydNewZ spNewD
  simp only [Bool.and_eq_false_iff, decide_eq_false_iff_not] at hg
  by_cases h1 : v < 0
  · rw [if_pos (.inl h1)]
    exact bif_true (by simpa using h1) _ _
  · refine (bif_false (by simpa using h1) _ _).trans ?_
    by_cases h2 : 3 < v
    · rw [if_pos (.inr h2)]
      exact bif_true (by simpa using h2) _ _
    · rw [if_neg (by omega)]
      refine (bif_false (by simpa using h2) _ _).trans ?_
      exact bif_true (by simp; omega) _ _
end
end Go.Proofs.YtjpeefegeobgfaaGreat.Sym
namespace Go.Proofs.YtjpeefegeobgfaaGreat.Sym
open Go
set_option linter.unusedSimpArgs false
set_option linter.unusedVariables false
noncomputable section
abbrev oEnc1 : List (List Sh) := [[.ptr 1 0], [.ptr 2 0, dI, dI, dB], [dO, dI]]
abbrev oEncC : List (List Sh) := [[.ptr 1 0, dI, dI, dB], [dO, dI], [.ptr 0 0]]
abbrev encOut1 (v : Int) (s : EnS) : DenO oEnc1 := (((), ()), encOut v s)
abbrev encOutC (v : Int) (s : EnS) : DenO oEncC := (((), (v, (s.1, (s.2.1, ())))), ((s.2.2, (130048, ())), (((), ()), ())))
abbrev encStC (d : DenO oEncC) : EnS := (d.1.2.2.1, (d.1.2.2.2.1, d.2.1.1))
abbrev encOkC (d : DenO oEncC) : Bool := decide (d.2.1.2.1 = 130048) && decide (d.2.1.1.length ≤ 130048)
def spItems {α : Type} (one : α → EnS → EnS) (xs : List α) (s : EnS) : EnS := if 16 < (xs.length : Int) then spFail 9 s else xs.foldl (fun s x => one x s) (spPutE xs.length 4 s)
abbrev tPart : Ty := .prod (.int .i32) (.prod tBlobT .unit)
def spPartE (p : tPart.den) (s : EnS) : EnS := spBlobE p.2.1 (spPutE p.1 4 s)
def partOk (p : tPart.den) : Bool := decide (p.2.1.2.1.length ≤ 2147483647)
abbrev encOutB (v : Int) (s : EnS) : (Int × (Int × (Bool × Unit))) × ((List Int × (Int × Unit)) × (Unit × Unit)) := ((v, (s.1, (s.2.1, ()))), ((s.2.2, (130048, ())), ((), ())))
theorem spRawE_le {s : EnS} (p : List Int) (h : s.2.2.length ≤ 130048) : (spRawE p s).2.2.length ≤ 130048 := by
  unfold spRawE
  split
  · exact h
  · simp only [List.length_append]; omega
theorem spFail_le {s : EnS} (e : Int) (h : s.2.2.length ≤ 130048) : (spFail e s).2.2.length ≤ 130048 := by
  unfold spFail; split <;> exact h
theorem spStrE_le {s : EnS} (t : List Int) (h : s.2.2.length ≤ 130048) : (spStrE t s).2.2.length ≤ 130048 := by
  unfold spStrE
  split
  · exact spFail_le _ h
  · split
    · exact spFail_le _ h
    · exact spRawE_le _ (spPutE_le _ _ h)
theorem foldl_le {α : Type} {one : α → EnS → EnS} (h1 : ∀ x s, s.2.2.length ≤ 130048 → (one x s).2.2.length ≤ 130048) : ∀ (xs : List α) (s : EnS), s.2.2.length ≤ 130048 → (xs.foldl (fun s x => one x s) s).2.2.length ≤ 130048
  | [], _, h => h
  | x :: xs, s, h => foldl_le h1 xs (one x s) (h1 x s h)
theorem spItems_le {α : Type} {one : α → EnS → EnS} (h1 : ∀ x s, s.2.2.length ≤ 130048 → (one x s).2.2.length ≤ 130048) (xs : List α) {s : EnS} (h : s.2.2.length ≤ 130048) : (spItems one xs s).2.2.length ≤ 130048 := by
  unfold spItems
  split
  · exact spFail_le _ h
  · exact foldl_le h1 xs _ (spPutE_le _ _ h)
-- FqParts_5 : loqParts_5.st.den → Tr (DenX loqParts_5.xs) | ((h6, (h7, (h8, ()))), ((h9, (h10, (h11, ()))), ((h12, (h13, ())), ((), ()))))
theorem spLacks_le {s : EnS} (v : Int) (z : Bool) (lo hi : Int) (h : s.2.2.length ≤ 130048) : (spLacks v z lo hi s).2.2.length ≤ 130048 := by
  unfold spLacks
  split
  · exact spFail_le _ h
  · exact h
-- FqTopics_5 : loqTopics_5.st.den → Tr (DenX loqTopics_5.xs) | ((h6, (h7, (h8, ()))), ((h9, (h10, (h11, ()))), ((h12, (h13, ())), ((), ()))))
end
end Go.Proofs.YtjpeefegeobgfaaGreat.Sym
namespace Go.Proofs.YtjpeefegeobgfaaGreat.Sym
open Go
set_option linter.unusedSimpArgs false
set_option linter.unusedVariables false
noncomputable section
abbrev oDec1 : List (List Sh) := [[.ptr 1 0], [.ptr 2 0, dI, dI], [dL, dI]]
abbrev oDecC : List (List Sh) := [[.ptr 1 0, dI, dI], [dL, dI], [.ptr 0 0]]
abbrev oDecCZ : List (List Sh) := [[.nil, dI, dI], [.ptr 0 0]]
abbrev decOut1 (v : Int) (b : List Int) (s : DeS) : DenO oDec1 := (((), ()), decOut v b s)
abbrev decOutC (v : Int) (b : List Int) (s : DeS) : DenO oDecC := (((), (v, (s.1, ()))), ((b, (s.2, ())), (((), ()), ())))
abbrev decStC (d : DenO oDecC) : DeS := (d.1.2.2.1, d.2.1.2.1)
def spRep {α : Type} (one : DeS → α × DeS) : Nat → DeS → List α × DeS
  | 0, s => ([], s)
  | k + 1, s => if s.1 = 0 then ((one s).1 :: (spRep one k (one s).2).1, (spRep one k (one s).2).2) else ([], s)
def spLen (n : Int) (s : DeS) : DeS := if s.1 = 0 then (if n < 0 then (5, s.2) else if 16 < n then (9, s.2) else s) else s
def spList {α : Type} (one : DeS → α × DeS) (b : List Int) (s : DeS) : List α × DeS := spRep one (spDn .i32 4 b s).1.toNat (spLen (spDn .i32 4 b s).1 (spDn .i32 4 b s).2)
abbrev decOutB (v : Int) (b : List Int) (s : DeS) : (Int × (Int × Unit)) × ((List Int × (Int × Unit)) × (Unit × Unit)) := ((v, (s.1, ())), ((b, (s.2, ())), ((), ())))
theorem spLen_ok {b : List Int} {s : DeS} (n : Int) (h : spDok b s.2 = true) : spDok b (spLen n s).2 = true := by
  unfold spLen
  split
  · split
    · exact h
    · split <;> exact h
  · exact h
theorem spRep_ok {α : Type} {one : DeS → α × DeS} {b : List Int} (h1 : ∀ s, spDok b s.2 = true → spDok b (one s).2.2 = true) : ∀ (k : Nat) (s : DeS), spDok b s.2 = true → spDok b (spRep one k s).2.2 = true
  | 0, s, h => h
  | k + 1, s, h => by
    rw [spRep]
    split
    · exact spRep_ok h1 k _ (h1 s h)
    · exact h
theorem spList_ok {α : Type} {one : DeS → α × DeS} {b : List Int} {s : DeS} (h1 : ∀ s, spDok b s.2 = true → spDok b (one s).2.2 = true) (h : spDok b s.2 = true) : spDok b (spList one b s).2.2 = true :=
  spRep_ok h1 _ _ (spLen_ok _ (spDn_ok _ _ h))
theorem spDStr_ok {b : List Int} {s : DeS} (h : spDok b s.2 = true) : spDok b (spDStr b s).2.2 = true := spDText_ok _ (spDn_ok _ _ h)
@[irreducible] noncomputable def spDPart (b : List Int) (s : DeS) : tPart.den × DeS := (((spDn .i32 4 b s).1, ((spDBlob b (spDn .i32 4 b s).2).1, ())), (spDBlob b (spDn .i32 4 b s).2).2)
-- FuParts_10 : louParts_10.st.den → Tr (DenX louParts_10.xs) | ((h4, (h5, (h6, ()))), ((h7, (h8, ())), ((h9, (h10, ())), ((), ()))))
-- FuTopics_10 : louTopics_10.st.den → Tr (DenX louTopics_10.xs) | ((h4, (h5, (h6, ()))), ((h7, (h8, ())), ((h9, (h10, ())), ((), ()))))
-- FuTopicsZ_10 : louTopicsZ_10.st.den → Tr (DenX louTopicsZ_10.xs) | ((h2, (h3, (h4, ()))), ((h5, (h6, ())), ((), ())))
def newBad (args : List V) (A : AS) : Bool := match args with
  | [.one (.int _ v), .one (.lst _ _ xs _)] => !(decide (0 ≤ v) && (decide (v ≤ 3) && decide ((xs.length : Int) ≤ 130048)))
  | _ => false
end
end Go.Proofs.YtjpeefegeobgfaaGreat.Sym
namespace Go.Proofs.YtjpeefegeobgfaaGreat.Sym
open Go
set_option linter.unusedSimpArgs false
set_option linter.unusedVariables false
noncomputable section
abbrev tDone : Ty := .prod (.int .i32) (.prod (.int .i16) (.prod (.int .i64) (.prod (.int .i64) (.prod (.int .i64) .unit))))
def spHasE (v lo hi x : Int) (n : Nat) (s : EnS) : EnS := if lo ≤ v ∧ v ≤ hi then spPutE x n s else s
theorem spHasE_le {s : EnS} (v lo hi x : Int) (n : Nat) (h : s.2.2.length ≤ 130048) : (spHasE v lo hi x n s).2.2.length ≤ 130048 := by
  unfold spHasE
  split
  · exact spPutE_le _ _ h
  · exact h
-- FrDones_5 : lorDones_5.st.den → Tr (DenX lorDones_5.xs) | ((h6, (h7, (h8, ()))), ((h9, (h10, (h11, ()))), ((h12, (h13, ())), ((), ()))))
-- FrGones_5 : lorGones_5.st.den → Tr (DenX lorGones_5.xs) | ((h6, (h7, (h8, ()))), ((h9, (h10, (h11, ()))), ((h12, (h13, ())), ((), ()))))
-- FrRep_8 : lorRep_8.st.den → Tr (DenX lorRep_8.xs) | ((h13, (h14, (h15, (h16, (h17, (h18, ())))))), ((h19, (h20, ())), ((), ((h21, (h22, (h23, ()))), ((h24, (h25, ())), ())))))
-- FrRep_5 : lorRep_5.st.den → Tr (DenX lorRep_5.xs) | ((h3, (h4, (h5, ()))), ((h6, (h7, ())), ((), ((h8, (h9, (h10, ()))), ((h11, (h12, ())), ())))))
end
end Go.Proofs.YtjpeefegeobgfaaGreat.Sym
namespace Go.Proofs.YtjpeefegeobgfaaGreat.Sym
open Go
set_option linter.unusedSimpArgs false
set_option linter.unusedVariables false
noncomputable section
def spDHasN (k : IntKind) (n : Nat) (v lo hi : Int) (b : List Int) (s : DeS) : Int × DeS := if spDHas v lo hi s.1 = true then spDn k n b s else (0, s)
theorem spDHasN_ok {k : IntKind} {n : Nat} {v lo hi : Int} {b : List Int} {s : DeS} (h : spDok b s.2 = true) : spDok b (spDHasN k n v lo hi b s).2.2 = true := by
  unfold spDHasN
  split
  · exact spDn_ok _ _ h
  · exact h
def spD3 (b : List Int) (s : DeS) : DeS := (spDn .i64 8 b (spDn .i16 2 b (spDn .i32 4 b s).2).2).2
@[irreducible] noncomputable def spDDone (v : Int) (b : List Int) (s : DeS) : tDone.den × DeS :=
  (((spDn .i32 4 b s).1, ((spDn .i16 2 b (spDn .i32 4 b s).2).1, ((spDn .i64 8 b (spDn .i16 2 b (spDn .i32 4 b s).2).2).1, ((spDHasN .i64 8 v 2 3 b (spD3 b s)).1, ((spDHasN .i64 8 v 3 3 b (spDHasN .i64 8 v 2 3 b (spD3 b s)).2).1, ()))))), (spDHasN .i64 8 v 3 3 b (spDHasN .i64 8 v 2 3 b (spD3 b s)).2).2)
-- FwDones_10 : lowDones_10.st.den → Tr (DenX lowDones_10.xs) | ((h4, (h5, (h6, ()))), ((h7, (h8, ())), ((h9, (h10, ())), ((), ()))))
-- FwGones_10 : lowGones_10.st.den → Tr (DenX lowGones_10.xs) | ((h4, (h5, (h6, ()))), ((h7, (h8, ())), ((h9, (h10, ())), ((), ()))))
-- FwGonesZ_10 : lowGonesZ_10.st.den → Tr (DenX lowGonesZ_10.xs) | ((h2, (h3, (h4, ()))), ((h5, (h6, ())), ((), ())))
end
end Go.Proofs.YtjpeefegeobgfaaGreat.Sym
namespace Go.Proofs.YtjpeefegeobgfaaGreat.Sym
open Go
set_option linter.unusedSimpArgs false
set_option linter.unusedVariables false
noncomputable section
abbrev d8 : Sh := .dat (.int .i8) false false
abbrev iowI8 : Io := ⟨[.ptr 0 0, d8], [oWr], [], [dI], none⟩
def FwI8 (d : iowI8.In) : Tr iowI8.Res :=
  .ite (spWok d.2.1.1 d.2.1.2.1) (.ret (.ret (((spWr d.2.1.1 d.2.1.2.1 d.1.2.1 1).1, ()), (((spWr d.2.1.1 d.2.1.2.1 d.1.2.1 1).2, (d.2.1.2.1, ())), ())))) .no
abbrev cswI8 : List (Nat × Hc) := [(175, ioHd iownumber Fwnumber)]
def hdwI8 : Hd := hdT cswI8
def lpwI8 : Lp := lpT []
def bodywI8 (a0 : Int) (a1 : List Int) (a2 : Int) : Option iowI8.Res := bif spWok a1 a2 && (decide (0 ≤ 1) && decide (1 ≤ 8)) then some (Out.ret (((spWr a1 a2 (IntKind.u64.wrap a0) (Int.toNat 1)).fst, ()), ((spWr a1 a2 (IntKind.u64.wrap a0) (Int.toNat 1)).snd, a2, ()), ())) else none
theorem runwI8 (a0 : Int) (a1 : List Int) (a2 : Int) : Io.run tt hdwI8 dr lpwI8 iowI8 Go.Proofs.Tryz.f140 (((), a0, ()), (a1, a2, ()), ()) = bodywI8 a0 a1 a2 := by kernel_rfl
theorem okwI8 : HcOk prog 140 (ioHd iowI8 FwI8) := by
  refine fn_sound (n := 400) hm (cs := cswI8) (.cons okwnumber .nil) (lp := lpwI8) (fn := Go.Proofs.Tryz.f140) (by kernel_rfl) (by kernel_rfl) (by kernel_rfl) iowI8 (.done (by kernel_rfl)) FwI8 ?_
  rintro ⟨⟨⟨⟩, (v : Int), ⟨⟩⟩, ⟨⟨(b : List Int), (m : Int), ⟨⟩⟩, ⟨⟩⟩⟩ out hw ho
  obtain ⟨hg, ho⟩ := Tr.guard ho
  have hg : spWok b m = true := hg
  cases ho
  refine (runwI8 v b m).trans ?_
  unfold bodywI8
  have e : spWr b m (IntKind.u64.wrap v) 1 = spWr b m v 1 := by unfold spWr; rw [spBE_u64 v (by decide)]
  simp [hg, e]
abbrev ioeI8 : Io := ⟨[.ptr 0 0, d8], oEnc, [], [], none⟩
def FeI8 (d : ioeI8.In) : Tr ioeI8.Res := .ite (encOk d.2) (.ret (.ret ((), encOut d.2.1.2.1 (spPutE d.1.2.1 1 (encSt d.2))))) .no
abbrev cseI8 : List (Nat × Hc) := [(140, ioHd iowI8 FwI8), (138, ioHd ioenoted Fenoted)]
def hdeI8 : Hd := hdT cseI8
def lpeI8 : Lp := lpT []
def bodyeI8 (a0 : Int) (a1 : Int) (a2 : Int) (a3 : Bool) (a4 : List Int) (a5 : Int) : Option ioeI8.Res := bif spWok a4 a5 then bif decide (a5 = 130048) && decide ((spWr a4 a5 a0 1).snd.length ≤ 130048) then some (Out.ret ((), ((), a1, a2, a3 || decide ((spWr a4 a5 a0 1).fst ≠ 0), ()), ((spWr a4 a5 a0 1).snd, 130048, ()), ())) else none else none
theorem runeI8 (a0 : Int) (a1 : Int) (a2 : Int) (a3 : Bool) (a4 : List Int) (a5 : Int) : Io.run tt hdeI8 dr lpeI8 ioeI8 Go.Proofs.Tryz.f58 (((), a0, ()), ((), a1, a2, a3, ()), (a4, a5, ()), ()) = bodyeI8 a0 a1 a2 a3 a4 a5 := by kernel_rfl
theorem okeI8 : HcOk prog 58 (ioHd ioeI8 FeI8) := by
  refine fn_sound (n := 400) hm (cs := cseI8) (.cons okwI8 (.cons okenoted .nil)) (lp := lpeI8) (fn := Go.Proofs.Tryz.f58) (by kernel_rfl) (by kernel_rfl) (by kernel_rfl) ioeI8 (.done (by kernel_rfl)) FeI8 ?_
  rintro ⟨⟨⟨⟩, (x : Int), ⟨⟩⟩, ⟨⟨⟨⟩, (v : Int), (e : Int), (f : Bool), ⟨⟩⟩, ⟨(b : List Int), (m : Int), ⟨⟩⟩, ⟨⟩⟩⟩ out hw ho
  obtain ⟨hg, ho⟩ := Tr.guard ho
  obtain ⟨rfl, hb⟩ := encOk_iff hg
  cases ho
  refine (runeI8 x v e f b 130048).trans ?_
  exact encPut 1 x hb
abbrev iordI8 : Io := ⟨[.ptr 0 0], [oRr], [], [d8, dI], none⟩
def FrdI8 (d : iordI8.In) : Tr iordI8.Res :=
  .ite (spRok d.2.1.1 d.2.1.2.1) (.ret (.ret ((IntKind.i8.wrap (spRd d.2.1.1 d.2.1.2.1 1).1, ((spRd d.2.1.1 d.2.1.2.1 1).2.2, ())), ((d.2.1.1, ((spRd d.2.1.1 d.2.1.2.1 1).2.1, ())), ())))) .no
abbrev csrdI8 : List (Nat × Hc) := [(179, ioHd iordnumber Frdnumber)]
def hdrdI8 : Hd := hdT csrdI8
def lprdI8 : Lp := lpT []
def bodyrdI8 (a0 : List Int) (a1 : Int) : Option iordI8.Res := bif spRok a0 a1 && (decide (0 ≤ 1) && decide (1 ≤ 8)) then some (Out.ret ((IntKind.i8.wrap (spRd a0 a1 (Int.toNat 1)).fst, (spRd a0 a1 (Int.toNat 1)).snd.snd, ()), (a0, (spRd a0 a1 (Int.toNat 1)).snd.fst, ()), ())) else none
theorem runrdI8 (a0 : List Int) (a1 : Int) : Io.run tt hdrdI8 dr lprdI8 iordI8 Go.Proofs.Tryz.f156 (((), ()), (a0, a1, ()), ()) = bodyrdI8 a0 a1 := by kernel_rfl
theorem okrdI8 : HcOk prog 156 (ioHd iordI8 FrdI8) := by
  refine fn_sound (n := 400) hm (cs := csrdI8) (.cons okrdnumber .nil) (lp := lprdI8) (fn := Go.Proofs.Tryz.f156) (by kernel_rfl) (by kernel_rfl) (by kernel_rfl) iordI8 (.done (by kernel_rfl)) FrdI8 ?_
  rintro ⟨⟨⟨⟩, ⟨⟩⟩, ⟨⟨(b : List Int), (p : Int), ⟨⟩⟩, ⟨⟩⟩⟩ out hw ho
  obtain ⟨hg, ho⟩ := Tr.guard ho
  have hg : spRok b p = true := hg
  cases ho
  refine (runrdI8 b p).trans ?_
  unfold bodyrdI8
  rw [bif_true (by simp [hg])]
  rfl
abbrev iodN8 : Io := ⟨[.ptr 0 0, .fnc 156 true [1]], oDec, [], [d8], none⟩
def FdN8 (d : iodN8.In) : Tr iodN8.Res := .ite (decOk d.2) (.ret (.ret ((IntKind.i8.wrap (spRd d.2.2.1.1 d.2.2.1.2.1 1).1, ()), decOut d.2.1.2.1 d.2.2.1.1 ((spRd d.2.2.1.1 d.2.2.1.2.1 1).2.2, (spRd d.2.2.1.1 d.2.2.1.2.1 1).2.1)))) .no
abbrev csdN8 : List (Nat × Hc) := [(156, ioHd iordI8 FrdI8)]
def hddN8 : Hd := hdT csdN8
def lpdN8 : Lp := lpT []
def bodydN8 (a0 : Int) (a1 : Int) (a2 : List Int) (a3 : Int) : Option iodN8.Res := bif spRok a2 a3 then some (Out.ret ((IntKind.i8.wrap (spRd a2 a3 1).fst, ()), ((), a0, (spRd a2 a3 1).snd.snd, ()), (a2, (spRd a2 a3 1).snd.fst, ()), ())) else none
theorem rundN8 (a0 : Int) (a1 : Int) (a2 : List Int) (a3 : Int) : Io.run tt hddN8 dr lpdN8 iodN8 Go.Proofs.Tryz.f155 (((), (), ()), ((), a0, a1, ()), (a2, a3, ()), ()) = bodydN8 a0 a1 a2 a3 := by kernel_rfl
theorem okdN8 : HcOk prog 155 (ioHd iodN8 FdN8) := by
  refine fn_sound (n := 400) hm (cs := csdN8) (.cons okrdI8 .nil) (lp := lpdN8) (fn := Go.Proofs.Tryz.f155) (by kernel_rfl) (by kernel_rfl) (by kernel_rfl) iodN8 (.done (by kernel_rfl)) FdN8 ?_
  rintro ⟨⟨⟨⟩, ⟨⟩, ⟨⟩⟩, ⟨⟨⟩, (v : Int), (e : Int), ⟨⟩⟩, ⟨(b : List Int), (p : Int), ⟨⟩⟩, ⟨⟩⟩ out hw ho
  obtain ⟨hg, ho⟩ := Tr.guard ho
  have hg : spDok b p = true := hg
  cases ho
  refine (rundN8 v e b p).trans ?_
  unfold bodydN8
  exact bif_true (spRok_of hg) _ _
abbrev iodI8 : Io := ⟨[.ptr 0 0], oDec, [], [d8], none⟩
def FdI8 (d : iodI8.In) : Tr iodI8.Res := .ite (decOk d.2) (.ret (.ret (((spDn .i8 1 d.2.2.1.1 (decSt d.2)).1, ()), decOut d.2.1.2.1 d.2.2.1.1 (spDn .i8 1 d.2.2.1.1 (decSt d.2)).2))) .no
abbrev csdI8 : List (Nat × Hc) := [(155, ioHd iodN8 FdN8)]
def hddI8 : Hd := hdT csdI8
def lpdI8 : Lp := lpT []
def bodydI8 (a0 : Int) (a1 : Int) (a2 : List Int) (a3 : Int) : Option iodI8.Res := bif a1 != 0 then some (Out.ret ((0, ()), ((), a0, a1, ()), (a2, a3, ()), ())) else bif spDok a2 a3 then some (Out.ret ((IntKind.i8.wrap (spRd a2 a3 1).fst, ()), ((), a0, (spRd a2 a3 1).snd.snd, ()), (a2, (spRd a2 a3 1).snd.fst, ()), ())) else none
theorem rundI8 (a0 : Int) (a1 : Int) (a2 : List Int) (a3 : Int) : Io.run tt hddI8 dr lpdI8 iodI8 Go.Proofs.Tryz.f91 (((), ()), ((), a0, a1, ()), (a2, a3, ()), ()) = bodydI8 a0 a1 a2 a3 := by kernel_rfl
theorem okdI8 : HcOk prog 91 (ioHd iodI8 FdI8) := by
  refine fn_sound (n := 400) hm (cs := csdI8) (.cons okdN8 .nil) (lp := lpdI8) (fn := Go.Proofs.Tryz.f91) (by kernel_rfl) (by kernel_rfl) (by kernel_rfl) iodI8 (.done (by kernel_rfl)) FdI8 ?_
  rintro ⟨⟨⟨⟩, ⟨⟩⟩, ⟨⟨⟩, (v : Int), (e : Int), ⟨⟩⟩, ⟨(b : List Int), (p : Int), ⟨⟩⟩, ⟨⟩⟩ out hw ho
  obtain ⟨hg, ho⟩ := Tr.guard ho
  have hg : spDok b p = true := hg
  cases ho
  refine (rundI8 v e b p).trans ?_
  unfold bodydI8
  show _ = some (Out.ret (((spDn .i8 1 b (e, p)).1, ()), decOut v b (spDn .i8 1 b (e, p)).2))
  unfold spDn
  by_cases h : e = 0
  · rw [if_pos h]
    refine (bif_false (by simpa using h) _ _).trans ?_
    exact bif_true hg _ _
  · rw [if_neg h]
    exact bif_true (by simpa using h) _ _
abbrev iodI8Z : Io := ⟨[.ptr 0 0], oDecZ, [], [d8], none⟩
def FdI8Z (d : iodI8Z.In) : Tr iodI8Z.Res := .ite (decide (d.2.1.2.2.1 ≠ 0)) (.ret (.ret ((0, ()), d.2))) .no
abbrev csdI8Z : List (Nat × Hc) := []
def hddI8Z : Hd := hdT csdI8Z
def lpdI8Z : Lp := lpT []
def bodydI8Z (a0 : Int) (a1 : Int) : Option iodI8Z.Res := bif a1 != 0 then some (Out.ret ((0, ()), ((), a0, a1, ()), ())) else none
theorem rundI8Z (a0 : Int) (a1 : Int) : Io.run tt hddI8Z dr lpdI8Z iodI8Z Go.Proofs.Tryz.f91 (((), ()), ((), a0, a1, ()), ()) = bodydI8Z a0 a1 := by kernel_rfl
theorem okdI8Z : HcOk prog 91 (ioHd iodI8Z FdI8Z) := by
  refine fn_sound (n := 400) hm (cs := csdI8Z) HcsOk.nil (lp := lpdI8Z) (fn := Go.Proofs.Tryz.f91) (by kernel_rfl) (by kernel_rfl) (by kernel_rfl) iodI8Z (.done (by kernel_rfl)) FdI8Z ?_
  rintro ⟨⟨⟨⟩, ⟨⟩⟩, ⟨⟨⟩, (v : Int), (e : Int), ⟨⟩⟩, ⟨⟩⟩ out hw ho
  obtain ⟨hg, ho⟩ := Tr.guard ho
  have hg : e ≠ 0 := of_decide_eq_true hg
  cases ho
  refine (rundI8Z v e).trans ?_
  unfold bodydI8Z
  exact bif_true (by simpa using hg) _ _
theorem spHasE_in {v lo hi x : Int} {n : Nat} {s : EnS} (h : lo ≤ v ∧ v ≤ hi) : spHasE v lo hi x n s = spPutE x n s := by unfold spHasE; rw [if_pos h]
theorem spHasE_out {v lo hi x : Int} {n : Nat} {s : EnS} (h : ¬ (lo ≤ v ∧ v ≤ hi)) : spHasE v lo hi x n s = s := by unfold spHasE; rw [if_neg h]
end
end Go.Proofs.YtjpeefegeobgfaaGreat.Sym
