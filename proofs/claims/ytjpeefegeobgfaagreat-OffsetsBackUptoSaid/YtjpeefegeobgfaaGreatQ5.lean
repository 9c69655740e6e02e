/- leatref01.Fits, Digits, Number. -/
import Derived.Test.YtjpeefegeobgfaaGreatQ4

namespace Go.Proofs.YtjpeefegeobgfaaGreat.Sym
open Go
set_option linter.unusedSimpArgs false
set_option linter.unusedVariables false
noncomputable section
def spFits (v n : Int) : Bool := if 8 ≤ n then true else if -(2 ^ (8 * n - 1).toNat) ≤ v ∧ v < 2 ^ (8 * n - 1).toNat then true else false
abbrev ionFits : Io := ⟨[d64s, dI], [], [], [dB], none⟩
def FnFits (d : ionFits.In) : Tr ionFits.Res := .ite (decide ((1 : Int) ≤ d.1.2.1)) (.ret (.ret ((spFits d.1.1 d.1.2.1, ()), ()))) .no
abbrev csnFits : List (Nat × Hc) := []
def hdnFits : Hd := hdT csnFits
abbrev lonFits_6 : Lo := ⟨⟨[.one (.hol (.int IntKind.i64)), .one (.hol (.int IntKind.i64)), .any, .any, .any, .one (.hol (.int IntKind.i64)), .one (.hol (.int IntKind.i64)), .any, .any, .any, .any, .any, .any, .any, .any, .any, .any, .any, .any, .any, .any, .any, .any, .any, .any, .any, .any], []⟩, [(.exit 0, ⟨[.one (.hol (.int IntKind.i64)), .any, .any, .any, .any, .one (.hol (.int IntKind.i64)), .any, .any, .any, .any, .any, .any, .any, .any, .any, .any, .any, .any, .any, .any, .any, .any, .any, .any, .any, .any, .any], []⟩)]⟩
-- FnFits_6 : lonFits_6.st.den → Tr (DenX lonFits_6.xs) | ((h2, (h3, (h4, (h5, ())))), ())
def FnFits_6 (d : lonFits_6.st.den) : Tr (DenX lonFits_6.xs) :=
  .ite (decide (d.1.2.2.1 = 1) && (decide (d.1.2.2.2.1 = 0) && (decide ((1 : Int) ≤ d.1.2.1) && decide (d.1.2.1 ≤ (7 : Int))))) (.ret (.ret ((), ((d.1.1, ((2 : Int) ^ (8 * d.1.2.1 - 1).toNat, ())), ())))) .no
def lpnFits : Lp := lpT [(6, loHd lonFits_6 FnFits_6)]
def stepnFits_6 {R : Type} (h2 : Int) (h3 : Int) (h4 : Int) (h5 : Int) (next : Int → Int → Int → Int → Option R) (out : DenX lonFits_6.xs → Option R) : Option R := bif decide (h5 < IntKind.i64.wrap (IntKind.i64.wrap (8 * h3) - 1)) then next (h2) (h3) (IntKind.i64.wrap (h4 * 2)) (IntKind.i64.wrap (h5 + 1)) else out (.ret ((), ((h2, (h4, ())), ())))
def itnFits_6 (n : Nat) (h2 : Int) (h3 : Int) (h4 : Int) (h5 : Int) : Option (DenX lonFits_6.xs) := lpN tt hdnFits dr lpnFits 0 Go.Proofs.Tryz.f198 (topL Go.Proofs.Tryz.f198 0) n (lonFits_6.st.mk' ((h2, (h3, (h4, (h5, ())))), ())) (decX lonFits_6.xs)
theorem slnFits_6 (n : Nat) (h2 : Int) (h3 : Int) (h4 : Int) (h5 : Int) : itnFits_6 (n + 1) h2 h3 h4 h5 = stepnFits_6 h2 h3 h4 h5 (itnFits_6 n) some := by kernel_rfl
theorem two_pow_le {m : Nat} (h : m ≤ 56) : (1 : Int) ≤ 2 ^ m ∧ (2 : Int) ^ m ≤ 72057594037927936 := by
  constructor
  · have : (0 : Int) < 2 ^ m := Int.pow_pos (by decide)
    omega
  · have := Nat.pow_le_pow_right (show 0 < 2 by decide) h
    have e : ((2 ^ m : Nat) : Int) = (2 : Int) ^ m := by simp
    have e2 : (2 : Nat) ^ 56 = 72057594037927936 := by decide
    omega
theorem loopnFits (v : Int) {n : Int} (h0 : 1 ≤ n) (h1 : n ≤ 7) : ∀ (k j : Nat), (8 * n - 1).toNat < j + k → j ≤ (8 * n - 1).toNat →
    itnFits_6 k v n ((2 : Int) ^ j) j = some (.ret ((), ((v, ((2 : Int) ^ (8 * n - 1).toNat, ())), ()))) := by
  intro k
  induction k with
  | zero => intro j h; omega
  | succ k ih =>
    intro j h2 h3
    rw [slnFits_6]
    unfold stepnFits_6
    rw [wrap_i64 (n := 8 * n) (by omega) (by omega), wrap_i64 (n := 8 * n - 1) (by omega) (by omega)]
    by_cases hj : (j : Int) < 8 * n - 1
    · refine (bif_true (by simpa using hj) _ _).trans ?_
      have hp := two_pow_le (m := j + 1) (by omega)
      have hp0 := two_pow_le (m := j) (by omega)
      have e : (2 : Int) ^ j * 2 = 2 ^ (j + 1) := (Int.pow_succ 2 j).symm
      rw [e, wrap_i64 (n := (2 : Int) ^ (j + 1)) (by omega) (by omega), wrap_i64 (n := (j : Int) + 1) (by omega) (by omega)]
      exact ih (j + 1) (by omega) (by omega)
    · refine (bif_false (by simpa using hj) _ _).trans ?_
      have e : j = (8 * n - 1).toNat := by omega
      rw [← e]
def bodynFits (a0 : Int) (a1 : Int) : Option ionFits.Res := bif decide (8 ≤ a1) then some (Out.ret ((true, ()), ())) else (FnFits_6 ((a0, (a1, (1, (0, ())))), ())).run fun y => match y with | .ret ((), ((x12, x13, ()), ())) => (bif decide (IntKind.i64.wrap (0 - x13) ≤ x12) then some (Out.ret ((decide (x12 < x13), ()), ())) else some (Out.ret ((false, ()), ())))
theorem runnFits (a0 : Int) (a1 : Int) : Io.run tt hdnFits dr lpnFits ionFits Go.Proofs.Tryz.f198 ((a0, a1, ()), ()) = bodynFits a0 a1 := by kernel_rfl
theorem oknFits : HcOk prog 198 (ioHd ionFits FnFits) := by
  refine fn_sound (n := 400) hm (cs := csnFits) HcsOk.nil (lp := lpnFits) (fn := Go.Proofs.Tryz.f198) (by kernel_rfl) (by kernel_rfl) (by kernel_rfl) ionFits (.step (h0 := loHd lonFits_6 FnFits_6) (by kernel_rfl) (loop_sound (n := 400) hm (cs := csnFits) HcsOk.nil (lp := lpnFits) (fn := Go.Proofs.Tryz.f198) (.done (by kernel_rfl)) lonFits_6 FnFits_6 ?_) (.done (by kernel_rfl))) FnFits ?_
  · rintro ⟨⟨(v : Int), (n : Int), (a : Int), (i : Int), ⟨⟩⟩, ⟨⟩⟩ y hw hy
    obtain ⟨hg, hy⟩ := Tr.guard hy
    simp only [Bool.and_eq_true, decide_eq_true_eq] at hg
    obtain ⟨h1, h2, h3, h4⟩ := hg
    have h1 : a = 1 := h1
    have h2 : i = 0 := h2
    have h3 : (1 : Int) ≤ n := h3
    have h4 : n ≤ (7 : Int) := h4
    subst h1
    subst h2
    refine ⟨(8 * n - 1).toNat + 1, (loopnFits v h3 h4 ((8 * n - 1).toNat + 1) 0 (by omega) (by omega)).trans ?_⟩
    rw [← hy]; rfl
  · rintro ⟨⟨(v : Int), (n : Int), ⟨⟩⟩, ⟨⟩⟩ out hw ho
    obtain ⟨hg, ho⟩ := Tr.guard ho
    have hg : (1 : Int) ≤ n := of_decide_eq_true hg
    cases ho
    refine (runnFits v n).trans ?_
    unfold bodynFits
    show _ = some (Out.ret ((spFits v n, ()), ()))
    unfold spFits
    by_cases h8 : 8 ≤ n
    · rw [if_pos h8]
      exact bif_true (by simpa using h8) _ _
    · rw [if_neg h8]
      refine (bif_false (by simpa using h8) _ _).trans ?_
      have c1 : (decide ((1 : Int) = 1) && (decide ((0 : Int) = 0) && (decide ((1 : Int) ≤ n) && decide (n ≤ (7 : Int))))) = true := by simp; omega
      have e1 : FnFits_6 ((v, (n, (1, (0, ())))), ()) = .ite true (.ret (.ret ((), ((v, ((2 : Int) ^ (8 * n - 1).toNat, ())), ())))) .no := congrArg (fun c => Tr.ite c _ _) c1
      rw [e1]
      have hp := two_pow_le (m := (8 * n - 1).toNat) (by omega)
      show (bif decide (IntKind.i64.wrap (0 - (2 : Int) ^ (8 * n - 1).toNat) ≤ v) then some (Out.ret ((decide (v < (2 : Int) ^ (8 * n - 1).toNat), ()), ())) else some (Out.ret ((false, ()), ()))) = _
      generalize (2 : Int) ^ (8 * n - 1).toNat = m at hp ⊢
      rw [wrap_i64 (n := 0 - m) (by omega) (by omega)]
      by_cases h1 : 0 - m ≤ v
      · refine (bif_true (by simpa using h1) _ _).trans ?_
        by_cases h2 : v < m
        · rw [if_pos ⟨by omega, h2⟩, decide_eq_true h2]
        · rw [if_neg (by omega), decide_eq_false h2]
      · refine (bif_false (by simpa using h1) _ _).trans ?_
        rw [if_neg (by omega)]
abbrev ionDigits : Io := ⟨[d64s, dI], [], [], [dO], none⟩
def FnDigits (d : ionDigits.In) : Tr ionDigits.Res := .ite (decide ((0 : Int) ≤ d.1.2.1) && decide (d.1.2.1 ≤ (8 : Int))) (.ret (.ret ((spBE d.1.1 d.1.2.1.toNat, ()), ()))) .no
abbrev csnDigits : List (Nat × Hc) := []
def hdnDigits : Hd := hdT csnDigits
abbrev lonDigits_4 : Lo := ⟨⟨[.one (.hol (.int IntKind.i64)), .one (.hol (.int IntKind.i64)), .any, .any, .any, .one (.onl 5 (Ty.int IntKind.u8) 11), .one (.hol (.int IntKind.i64)), .any, .any, .any, .any, .any, .any, .any, .any, .any, .any, .any, .any, .any, .any, .any, .any, .any, .any, .any, .any, .any, .any, .any, .any, .any, .any, .any, .any, .any, .any, .any, .any, .any, .any, .any, .any, .any, .any, .any], []⟩, [(.exit 0, ⟨[.any, .one (.hol (.int IntKind.i64)), .any, .any, .any, .one (.onl 5 (Ty.int IntKind.u8) 11), .any, .any, .any, .any, .any, .any, .any, .any, .any, .any, .any, .any, .any, .any, .any, .any, .any, .any, .any, .any, .any, .any, .any, .any, .any, .any, .any, .any, .any, .any, .any, .any, .any, .any, .any, .any, .any, .any, .any, .any], []⟩)]⟩
-- FnDigits_4 : lonDigits_4.st.den → Tr (DenX lonDigits_4.xs) | ((h2, (h3, (h4, (h5, ())))), ())
abbrev lonDigits_13 : Lo := ⟨⟨[.any, .any, .any, .any, .any, .one (.onl 5 (Ty.int IntKind.u8) 11), .any, .any, .one (.onl 5 (Ty.int IntKind.u8) 17), .one (.hol (.int IntKind.i64)), .any, .any, .any, .any, .any, .any, .any, .any, .any, .any, .any, .any, .any, .any, .any, .any, .any, .any, .any, .any, .any, .any, .any, .any, .any, .any, .any, .any, .any, .any, .any, .any, .any, .any, .any, .any], []⟩, [(.exit 2, ⟨[.any, .any, .any, .any, .any, .any, .any, .any, .one (.onl 5 (Ty.int IntKind.u8) 17), .any, .any, .any, .any, .any, .any, .any, .any, .any, .any, .any, .any, .any, .any, .any, .any, .any, .any, .any, .any, .any, .any, .any, .any, .any, .any, .any, .any, .any, .any, .any, .any, .any, .any, .any, .any, .any], []⟩)]⟩
-- FnDigits_13 : lonDigits_13.st.den → Tr (DenX lonDigits_13.xs) | ((h18, (h19, (h20, ()))), ())
def spLow (v : Int) : Nat → List Int
  | 0 => []
  | n + 1 => v % 256 :: spLow (v / 256) n
def FnDigits_4 (d : lonDigits_4.st.den) : Tr (DenX lonDigits_4.xs) :=
  .ite (decide (d.1.2.2.1.length = 0) && (decide (d.1.2.2.2.1 = 0) && (decide ((0 : Int) ≤ d.1.2.1) && decide (d.1.2.1 ≤ (8 : Int))))) (.ret (.ret ((), ((d.1.2.1, (spLow d.1.1 d.1.2.1.toNat, ())), ())))) .no
def FnDigits_13 (d : lonDigits_13.st.den) : Tr (DenX lonDigits_13.xs) :=
  .ite (decide (d.1.2.1.length = 0) && (decide (d.1.2.2.1 = (d.1.1.length : Int) - 1) && decide (d.1.1.length ≤ 8))) (.ret (.ret ((), ((d.1.1.reverse, ()), ())))) .no
def lpnDigits : Lp := lpT [(4, loHd lonDigits_4 FnDigits_4), (13, loHd lonDigits_13 FnDigits_13)]
def stepnDigits_4 {R : Type} (h2 : Int) (h3 : Int) (h4 : List Int) (h5 : Int) (next : Int → Int → List Int → Int → Option R) (out : DenX lonDigits_4.xs → Option R) : Option R := bif decide (h5 < h3) then bif decide (IntKind.i64.wrap (h2.tmod 256) < 0) then bif decide (h4.length + [IntKind.u8.wrap (IntKind.i64.wrap (IntKind.i64.wrap (h2.tmod 256) + 256))].length ≤ 4294967296) then next (IntKind.i64.wrap ((IntKind.i64.wrap (h2 - IntKind.i64.wrap (IntKind.i64.wrap (h2.tmod 256) + 256))).tdiv 256)) (h3) (h4 ++ [IntKind.u8.wrap (IntKind.i64.wrap (IntKind.i64.wrap (h2.tmod 256) + 256))]) (IntKind.i64.wrap (h5 + 1)) else none else bif decide (h4.length + [IntKind.u8.wrap (IntKind.i64.wrap (h2.tmod 256))].length ≤ 4294967296) then next (IntKind.i64.wrap ((IntKind.i64.wrap (h2 - IntKind.i64.wrap (h2.tmod 256))).tdiv 256)) (h3) (h4 ++ [IntKind.u8.wrap (IntKind.i64.wrap (h2.tmod 256))]) (IntKind.i64.wrap (h5 + 1)) else none else out (.ret ((), ((h3, (h4, ())), ())))
def itnDigits_4 (n : Nat) (h2 : Int) (h3 : Int) (h4 : List Int) (h5 : Int) : Option (DenX lonDigits_4.xs) := lpN tt hdnDigits dr lpnDigits 0 Go.Proofs.Tryz.f199 (topL Go.Proofs.Tryz.f199 0) n (lonDigits_4.st.mk' ((h2, (h3, (h4, (h5, ())))), ())) (decX lonDigits_4.xs)
theorem slnDigits_4 (n : Nat) (h2 : Int) (h3 : Int) (h4 : List Int) (h5 : Int) : itnDigits_4 (n + 1) h2 h3 h4 h5 = stepnDigits_4 h2 h3 h4 h5 (itnDigits_4 n) some := by kernel_rfl
def stepnDigits_13 {R : Type} (h18 : List Int) (h19 : List Int) (h20 : Int) (next : List Int → List Int → Int → Option R) (out : DenX lonDigits_13.xs → Option R) : Option R := bif decide (0 ≤ h20) then bif decide (0 ≤ h20) && decide (h20 < (↑h18.length : Int)) then bif decide (h19.length + [h18.getD h20.toNat 0].length ≤ 4294967296) then next (h18) (h19 ++ [h18.getD h20.toNat 0]) (IntKind.i64.wrap (h20 - 1)) else none else none else out (.ret ((), ((h19, ()), ())))
def itnDigits_13 (n : Nat) (h18 : List Int) (h19 : List Int) (h20 : Int) : Option (DenX lonDigits_13.xs) := lpN tt hdnDigits dr lpnDigits 0 Go.Proofs.Tryz.f199 (topL Go.Proofs.Tryz.f199 1) n (lonDigits_13.st.mk' ((h18, (h19, (h20, ()))), ())) (decX lonDigits_13.xs)
theorem slnDigits_13 (n : Nat) (h18 : List Int) (h19 : List Int) (h20 : Int) : itnDigits_13 (n + 1) h18 h19 h20 = stepnDigits_13 h18 h19 h20 (itnDigits_13 n) some := by kernel_rfl
theorem tmod_256 (v : Int) : (v.tmod 256 < 0 → v.tmod 256 + 256 = v % 256) ∧ (¬ v.tmod 256 < 0 → v.tmod 256 = v % 256) := by
  by_cases h : 0 ≤ v
  · rw [Int.tmod_eq_emod_of_nonneg h]; omega
  · obtain ⟨u, rfl⟩ : ∃ u, v = -u := ⟨-v, by omega⟩
    rw [Int.neg_tmod, Int.tmod_eq_emod_of_nonneg (by omega)]; omega
theorem tdiv_256 (v : Int) : (v - v % 256).tdiv 256 = v / 256 := by
  have e : v - v % 256 = v / 256 * 256 := by omega
  rw [e, Int.mul_tdiv_cancel _ (by decide)]
theorem wrap_u8 {n : Int} (h0 : 0 ≤ n) (h1 : n < 256) : IntKind.u8.wrap n = n := wrap_id (by simp [inR, IntKind.min, IntKind.max, IntKind.signed, IntKind.bits]; omega)
theorem loopnDigits_4 {m : Nat} (hm : m ≤ 8) : ∀ (k j : Nat) (v : Int) (acc : List Int), m < j + k → j ≤ m → acc.length = j → -9223372036854775808 ≤ v → v ≤ 9223372036854775807 →
    itnDigits_4 k v (m : Int) acc j = some (.ret ((), (((m : Int), (acc ++ spLow v (m - j), ())), ()))) := by
  intro k
  induction k with
  | zero => intro j v acc h; omega
  | succ k ih =>
    intro j v acc h1 h2 h3 h4 h5
    rw [slnDigits_4]
    unfold stepnDigits_4
    by_cases hj : j < m
    · refine (bif_true (decide_eq_true (show (j : Int) < (m : Int) by omega)) _ _).trans ?_
      have ht := tmod_256 v
      have hd : ∀ x : Int, x = v % 256 → itnDigits_4 k (IntKind.i64.wrap ((IntKind.i64.wrap (v - x)).tdiv 256)) (m : Int) (acc ++ [IntKind.u8.wrap x]) (IntKind.i64.wrap ((j : Int) + 1)) = some (.ret ((), (((m : Int), (acc ++ spLow v (m - j), ())), ()))) := by
        rintro x rfl
        rw [wrap_i64 (n := v - v % 256) (by omega) (by omega), tdiv_256, wrap_i64 (n := v / 256) (by omega) (by omega), wrap_i64 (n := (j : Int) + 1) (by omega) (by omega), wrap_u8 (n := v % 256) (by omega) (by omega)]
        refine (ih (j + 1) (v / 256) (acc ++ [v % 256]) (by omega) (by omega) (by simp [h3]) (by omega) (by omega)).trans ?_
        obtain ⟨q, hq⟩ : ∃ q, m - j = q + 1 := ⟨m - j - 1, by omega⟩
        rw [hq, show m - (j + 1) = q by omega, spLow]
        simp
      have hr : -256 ≤ v.tmod 256 ∧ v.tmod 256 < 256 := by
        by_cases h : v.tmod 256 < 0
        · have := ht.1 h; omega
        · have := ht.2 h; omega
      rw [wrap_i64 (n := v.tmod 256) (by omega) (by omega), wrap_i64 (n := v.tmod 256 + 256) (by omega) (by omega)]
      by_cases hn : v.tmod 256 < 0
      · refine (bif_true (by simpa using hn) _ _).trans ?_
        refine (bif_true (decide_eq_true (show acc.length + 1 ≤ 4294967296 by omega)) _ _).trans ?_
        exact hd _ (ht.1 hn)
      · refine (bif_false (by simpa using hn) _ _).trans ?_
        refine (bif_true (decide_eq_true (show acc.length + 1 ≤ 4294967296 by omega)) _ _).trans ?_
        exact hd _ (ht.2 hn)
    · refine (bif_false (decide_eq_false (show ¬ (j : Int) < (m : Int) by omega)) _ _).trans ?_
      rw [show m - j = 0 by omega, spLow]
      simp
theorem loopnDigits_13 {low : List Int} (hl : low.length ≤ 8) : ∀ (j : Nat) (acc : List Int), j ≤ low.length → acc.length + j ≤ 8 →
    itnDigits_13 (j + 1) low acc ((j : Int) - 1) = some (.ret ((), ((acc ++ (low.take j).reverse, ()), ()))) := by
  intro j
  induction j with
  | zero =>
    intro acc h1 h2
    rw [slnDigits_13]
    unfold stepnDigits_13
    refine (bif_false (by decide) _ _).trans ?_
    simp
  | succ j ih =>
    intro acc h1 h2
    rw [slnDigits_13]
    unfold stepnDigits_13
    rw [show ((j + 1 : Nat) : Int) - 1 = (j : Int) by omega]
    have hg : List.getD low j (0 : Int) = low[j]'(by omega) := getD_lt (by omega)
    refine (bif_true (by simp) _ _).trans ?_
    refine (bif_true (by simp; omega) _ _).trans ?_
    simp only [Int.toNat_natCast, hg]
    refine (bif_true (decide_eq_true (show acc.length + 1 ≤ 4294967296 by omega)) _ _).trans ?_
    rw [wrap_i64 (n := (j : Int) - 1) (by omega) (by omega)]
    refine (ih (acc ++ [low[j]'(by omega)]) (by omega) (by simp; omega)).trans ?_
    rw [List.take_succ_eq_append_getElem (by omega), List.reverse_append, List.reverse_singleton, List.append_assoc]
theorem spLow_len (v : Int) : ∀ n, (spLow v n).length = n := by
  intro n
  induction n generalizing v with
  | zero => rfl
  | succ n ih => rw [spLow, List.length_cons, ih]
theorem spLow_snoc : ∀ (n : Nat) (v : Int), spLow v (n + 1) = spLow v n ++ [(v / 256 ^ n) % 256]
  | 0, v => by simp [spLow]
  | n + 1, v => by
    rw [spLow, spLow_snoc n (v / 256), spLow]
    have e : v / 256 / 256 ^ n = v / 256 ^ (n + 1) := by
      rw [Int.pow_succ, Int.mul_comm, Int.ediv_ediv_of_nonneg (by decide)]
    rw [e]; rfl
theorem spLow_rev (v : Int) : ∀ n, (spLow v n).reverse = spBE v n
  | 0 => rfl
  | n + 1 => by rw [spLow_snoc, List.reverse_append, spLow_rev v n]; rfl
def bodynDigits (a0 : Int) (a1 : Int) : Option ionDigits.Res := (FnDigits_4 ((a0, (a1, ([], (0, ())))), ())).run fun y => match y with | .ret ((), ((x16, x17, ()), ())) => ((FnDigits_13 ((x17, ([], (IntKind.i64.wrap (x16 - 1), ()))), ())).run fun y => match y with | .ret ((), ((x25, ()), ())) => (some (Out.ret ((x25, ()), ()))))
theorem runnDigits (a0 : Int) (a1 : Int) : Io.run tt hdnDigits dr lpnDigits ionDigits Go.Proofs.Tryz.f199 ((a0, a1, ()), ()) = bodynDigits a0 a1 := by kernel_rfl
theorem oknDigits : HcOk prog 199 (ioHd ionDigits FnDigits) := by
  refine fn_sound (n := 400) hm (cs := csnDigits) HcsOk.nil (lp := lpnDigits) (fn := Go.Proofs.Tryz.f199) (by kernel_rfl) (by kernel_rfl) (by kernel_rfl) ionDigits (.step (h0 := loHd lonDigits_4 FnDigits_4) (by kernel_rfl) (loop_sound (n := 400) hm (cs := csnDigits) HcsOk.nil (lp := lpnDigits) (fn := Go.Proofs.Tryz.f199) (.done (by kernel_rfl)) lonDigits_4 FnDigits_4 ?_) (.step (h0 := loHd lonDigits_13 FnDigits_13) (by kernel_rfl) (loop_sound (n := 400) hm (cs := csnDigits) HcsOk.nil (lp := lpnDigits) (fn := Go.Proofs.Tryz.f199) (.done (by kernel_rfl)) lonDigits_13 FnDigits_13 ?_) (.done (by kernel_rfl)))) FnDigits ?_
  · rintro ⟨⟨(v : Int), (m : Int), (acc : List Int), (i : Int), ⟨⟩⟩, ⟨⟩⟩ y hw hy
    obtain ⟨hg, hy⟩ := Tr.guard hy
    simp only [Bool.and_eq_true, decide_eq_true_eq] at hg
    obtain ⟨h1, h2, h3, h4⟩ := hg
    have h1 : acc = [] := List.eq_nil_of_length_eq_zero h1
    have h2 : i = 0 := h2
    have h3 : (0 : Int) ≤ m := h3
    have h4 : m ≤ (8 : Int) := h4
    subst h1
    subst h2
    obtain ⟨m, rfl⟩ := toNat_of h3
    have hv : inR .i64 v := hw.1.1
    simp only [inR, IntKind.min, IntKind.max, IntKind.signed, IntKind.bits] at hv
    simp at hv
    refine ⟨m + 1, (loopnDigits_4 (m := m) (by omega) (m + 1) 0 v [] (by omega) (by omega) rfl (by omega) (by omega)).trans ?_⟩
    rw [← hy]; rfl
  · rintro ⟨⟨(low : List Int), (acc : List Int), (i : Int), ⟨⟩⟩, ⟨⟩⟩ y hw hy
    obtain ⟨hg, hy⟩ := Tr.guard hy
    simp only [Bool.and_eq_true, decide_eq_true_eq] at hg
    obtain ⟨h1, h2, h3⟩ := hg
    have h1 : acc = [] := List.eq_nil_of_length_eq_zero h1
    have h2 : i = (low.length : Int) - 1 := h2
    have h3 : low.length ≤ 8 := h3
    subst h1
    subst h2
    refine ⟨low.length + 1, (loopnDigits_13 h3 low.length [] (by omega) (by simpa using h3)).trans ?_⟩
    rw [← hy, List.take_length]; rfl
  · rintro ⟨⟨(v : Int), (m : Int), ⟨⟩⟩, ⟨⟩⟩ out hw ho
    obtain ⟨hg, ho⟩ := Tr.guard ho
    simp only [Bool.and_eq_true, decide_eq_true_eq] at hg
    obtain ⟨h5, h6⟩ := hg
    have h5 : (0 : Int) ≤ m := h5
    have h6 : m ≤ (8 : Int) := h6
    cases ho
    refine (runnDigits v m).trans ?_
    unfold bodynDigits
    have c1 : (decide (([] : List Int).length = 0) && (decide ((0 : Int) = 0) && (decide ((0 : Int) ≤ m) && decide (m ≤ (8 : Int))))) = true := by simp; omega
    have e1 : FnDigits_4 ((v, (m, ([], (0, ())))), ()) = .ite true (.ret (.ret ((), ((m, (spLow v m.toNat, ())), ())))) .no := congrArg (fun c => Tr.ite c _ _) c1
    rw [e1]
    show (FnDigits_13 ((spLow v m.toNat, ([], (IntKind.i64.wrap (m - 1), ()))), ())).run _ = _
    rw [wrap_i64 (n := m - 1) (by omega) (by omega)]
    have c2 : (decide (([] : List Int).length = 0) && (decide (m - 1 = ((spLow v m.toNat).length : Int) - 1) && decide ((spLow v m.toNat).length ≤ 8))) = true := by
      rw [spLow_len]; simp; omega
    have e2 : FnDigits_13 ((spLow v m.toNat, ([], (m - 1, ()))), ()) = .ite true (.ret (.ret ((), (((spLow v m.toNat).reverse, ()), ())))) .no := congrArg (fun c => Tr.ite c _ _) c2
    rw [e2, spLow_rev]
    rfl
def spSgn (l : List Int) : Int := match l with
  | [] => 0
  | c :: l => l.foldl (fun v c => v * 256 + c) (if 128 ≤ c then c - 256 else c)
abbrev lonNumber_6 : Lo := ⟨⟨[.one (.hol (.sl 5 (Ty.int IntKind.u8))), .one (.hol (.int IntKind.i64)), .one (.hol (.int IntKind.i64)), .any, .any, .any, .any, .any, .one (.hol (.int IntKind.i64)), .one (.hol (.int IntKind.i64)), .any, .any, .any, .any, .any, .any, .any, .any, .any, .any, .any, .any, .any, .any, .any, .any, .any, .any, .any, .any, .any, .any, .any, .any, .any, .any, .any, .any, .any, .any, .any, .any, .any, .any, .any, .any, .any, .any, .any, .any, .any, .any], []⟩, [(.exit 0, ⟨[.any, .any, .any, .any, .any, .any, .any, .any, .one (.hol (.int IntKind.i64)), .any, .any, .any, .any, .any, .any, .any, .any, .any, .any, .any, .any, .any, .any, .any, .any, .any, .any, .any, .any, .any, .any, .any, .any, .any, .any, .any, .any, .any, .any, .any, .any, .any, .any, .any, .any, .any, .any, .any, .any, .any, .any, .any], []⟩)]⟩
-- FnNumber_6 : lonNumber_6.st.den → Tr (DenX lonNumber_6.xs) | ((h3, (h4, (h5, (h6, (h7, ()))))), ())
def FnNumber_6 (d : lonNumber_6.st.den) : Tr (DenX lonNumber_6.xs) :=
  .ite (decide (d.1.2.2.2.1 = 0) && (decide (d.1.2.2.2.2.1 = 0) && ((decide ((0 : Int) ≤ d.1.2.1) && decide (d.1.2.1 + d.1.2.2.1 ≤ (d.1.1.length : Int))) && (decide ((0 : Int) ≤ d.1.2.2.1) && decide (d.1.2.2.1 ≤ (8 : Int)))))) (.ret (.ret ((), ((spSgn ((d.1.1.drop d.1.2.1.toNat).take d.1.2.2.1.toNat), ()), ())))) .no
end
end Go.Proofs.YtjpeefegeobgfaaGreat.Sym
namespace Go.Proofs.YtjpeefegeobgfaaGreat.Sym
open Go
set_option linter.unusedSimpArgs false
set_option linter.unusedVariables false
noncomputable section
abbrev tLab : Ty := .prod (.int .i64) (.prod (.int .i64) (.prod .bool (.prod bs .unit)))
abbrev tNode : Ty := .tree tLab 98
abbrev dNode : Sh := .dat tNode true false
abbrev tNodes : Ty := .sl 98 tNode
abbrev Nd : Type := Tre tLab.den
abbrev iotNum : Io := ⟨[dI, d64s], [], [], [dNode], none⟩
def FtNum (d : iotNum.In) : Tr iotNum.Res := .ret (.ret ((.mk (d.1.1, (d.1.2.1, (false, (([] : List Int), ())))) [], ()), ()))
abbrev cstNum : List (Nat × Hc) := []
def hdtNum : Hd := hdT cstNum
def lptNum : Lp := lpT []
def bodytNum (a0 : Int) (a1 : Int) : Option iotNum.Res := some (Out.ret ((Tre.mk (a0, a1, false, [], ()) [], ()), ()))
theorem runtNum (a0 : Int) (a1 : Int) : Io.run tt hdtNum dr lptNum iotNum Go.Proofs.Tryz.f130 ((a0, a1, ()), ()) = bodytNum a0 a1 := by kernel_rfl
theorem oktNum : HcOk prog 130 (ioHd iotNum FtNum) := by
  refine fn_sound (n := 400) hm (cs := cstNum) HcsOk.nil (lp := lptNum) (fn := Go.Proofs.Tryz.f130) (by kernel_rfl) (by kernel_rfl) (by kernel_rfl) iotNum (.done (by kernel_rfl)) FtNum ?_
  rintro ⟨⟨(k : Int), (n : Int), ⟨⟩⟩, ⟨⟩⟩ out hw ho
  cases ho
  exact runtNum k n
abbrev iotRow : Io := ⟨[.dat tNodes false false], [], [], [dNode], none⟩
def FtRow (d : iotRow.In) : Tr iotRow.Res := .ret (.ret ((.mk (10, (0, (false, (([] : List Int), ())))) d.1.1, ()), ()))
abbrev cstRow : List (Nat × Hc) := []
def hdtRow : Hd := hdT cstRow
def lptRow : Lp := lpT []
def bodytRow (a0 : List tNode.den) : Option iotRow.Res := some (Out.ret ((Tre.mk (10, 0, false, [], ()) a0, ()), ()))
theorem runtRow (a0 : List tNode.den) : Io.run tt hdtRow dr lptRow iotRow Go.Proofs.Tryz.f131 ((a0, ()), ()) = bodytRow a0 := by kernel_rfl
theorem oktRow : HcOk prog 131 (ioHd iotRow FtRow) := by
  refine fn_sound (n := 400) hm (cs := cstRow) HcsOk.nil (lp := lptRow) (fn := Go.Proofs.Tryz.f131) (by kernel_rfl) (by kernel_rfl) (by kernel_rfl) iotRow (.done (by kernel_rfl)) FtRow ?_
  rintro ⟨⟨l, ⟨⟩⟩, ⟨⟩⟩ out hw ho
  cases ho
  exact runtRow l
abbrev iotAt : Io := ⟨[dNode, dI], [], [], [dNode], none⟩
def spAt (n : Nd) (i : Int) : Nd := if 0 ≤ i ∧ i < (n.kids.length : Int) then n.kids.getD i.toNat (.mk (0, (0, (false, ([], ())))) []) else .mk (0, (0, (false, ([], ())))) []
def FtAt (d : iotAt.In) : Tr iotAt.Res := .ret (.ret ((spAt d.1.1 d.1.2.1, ()), ()))
abbrev cstAt : List (Nat × Hc) := []
def hdtAt : Hd := hdT cstAt
def lptAt : Lp := lpT []
def bodytAt (a0 : Tre tLab.den) (a1 : Int) : Option iotAt.Res := bif decide (a1 < 0) then some (Out.ret ((Tre.mk (0, 0, false, [], ()) [], ()), ())) else bif decide ((↑a0.2.length : Int) ≤ a1) then some (Out.ret ((Tre.mk (0, 0, false, [], ()) [], ()), ())) else bif decide (0 ≤ a1) && decide (a1 < (↑a0.2.length : Int)) then some (Out.ret ((Tre.mk (a0.2.getD a1.toNat (Tre.mk (0, 0, false, [], ()) [])).1 (a0.2.getD a1.toNat (Tre.mk (0, 0, false, [], ()) [])).2, ()), ())) else none
theorem runtAt (a0 : Tre tLab.den) (a1 : Int) : Io.run tt hdtAt dr lptAt iotAt Go.Proofs.Tryz.f129 ((a0, a1, ()), ()) = bodytAt a0 a1 := by kernel_rfl
theorem oktAt : HcOk prog 129 (ioHd iotAt FtAt) := by
  refine fn_sound (n := 400) hm (cs := cstAt) HcsOk.nil (lp := lptAt) (fn := Go.Proofs.Tryz.f129) (by kernel_rfl) (by kernel_rfl) (by kernel_rfl) iotAt (.done (by kernel_rfl)) FtAt ?_
  rintro ⟨⟨(n : Nd), (i : Int), ⟨⟩⟩, ⟨⟩⟩ out hw ho
  cases ho
  refine (runtAt n i).trans ?_
  unfold bodytAt
  show _ = some (Out.ret ((spAt n i, ()), ()))
  unfold spAt
  by_cases h1 : i < 0
  · rw [if_neg (by omega)]
    exact bif_true (by simpa using h1) _ _
  · refine (bif_false (by simpa using h1) _ _).trans ?_
    by_cases h2 : (n.kids.length : Int) ≤ i
    · rw [if_neg (by omega)]
      exact bif_true (by simpa using h2) _ _
    · rw [if_pos (by omega)]
      refine (bif_false (by simpa using h2) _ _).trans ?_
      refine (bif_true (by simp; omega) _ _).trans ?_
      cases n.kids.getD i.toNat (.mk (0, (0, (false, ([], ())))) [])
      rfl
end
end Go.Proofs.YtjpeefegeobgfaaGreat.Sym
namespace Go.Proofs.YtjpeefegeobgfaaGreat.Sym
open Go
set_option linter.unusedSimpArgs false
set_option linter.unusedVariables false
noncomputable section
abbrev tFl : Ty := .prod .str (.prod (.int .i64) (.prod (.int .i64) (.prod (.int .i64) .unit)))
abbrev tFld : Ty := .tree tFl 213
abbrev dFld : Sh := .dat tFld true false
abbrev tFlds : Ty := .sl 213 tFld
abbrev dFlds : Sh := .dat tFlds false false
abbrev dFldsO : Sh := .dat tFlds false true
abbrev Fd : Type := Tre tFl.den
abbrev dNodes : Sh := .dat tNodes false false
abbrev iotText : Io := ⟨[dS], [], [], [dNode], none⟩
def FtText (d : iotText.In) : Tr iotText.Res := .ret (.ret ((.mk (5, (0, (false, (d.1.1, ())))) [], ()), ()))
abbrev cstText : List (Nat × Hc) := []
def hdtText : Hd := hdT cstText
def lptText : Lp := lpT []
def bodytText (a0 : List Int) : Option iotText.Res := some (Out.ret ((Tre.mk (5, 0, false, a0, ()) [], ()), ()))
theorem runtText (a0 : List Int) : Io.run tt hdtText dr lptText iotText Go.Proofs.Tryz.f132 ((a0, ()), ()) = bodytText a0 := by kernel_rfl
theorem oktText : HcOk prog 132 (ioHd iotText FtText) := by
  refine fn_sound (n := 400) hm (cs := cstText) HcsOk.nil (lp := lptText) (fn := Go.Proofs.Tryz.f132) (by kernel_rfl) (by kernel_rfl) (by kernel_rfl) iotText (.done (by kernel_rfl)) FtText ?_
  rintro ⟨⟨(s : List Int), ⟨⟩⟩, ⟨⟩⟩ out hw ho
  cases ho
  exact runtText s
abbrev iotRows : Io := ⟨[dNodes], [], [], [dNode], none⟩
def FtRows (d : iotRows.In) : Tr iotRows.Res := .ret (.ret ((.mk (9, (0, (false, (([] : List Int), ())))) d.1.1, ()), ()))
abbrev cstRows : List (Nat × Hc) := []
def hdtRows : Hd := hdT cstRows
def lptRows : Lp := lpT []
def bodytRows (a0 : List tNode.den) : Option iotRows.Res := some (Out.ret ((Tre.mk (9, 0, false, [], ()) a0, ()), ()))
theorem runtRows (a0 : List tNode.den) : Io.run tt hdtRows dr lptRows iotRows Go.Proofs.Tryz.f133 ((a0, ()), ()) = bodytRows a0 := by kernel_rfl
theorem oktRows : HcOk prog 133 (ioHd iotRows FtRows) := by
  refine fn_sound (n := 400) hm (cs := cstRows) HcsOk.nil (lp := lptRows) (fn := Go.Proofs.Tryz.f133) (by kernel_rfl) (by kernel_rfl) (by kernel_rfl) iotRows (.done (by kernel_rfl)) FtRows ?_
  rintro ⟨⟨l, ⟨⟩⟩, ⟨⟩⟩ out hw ho
  cases ho
  exact runtRows l
abbrev iotZero : Io := ⟨[dNode], [], [], [dB], none⟩
def spZeroN (n : Nd) : Bool := if n.lab.2.1 = 0 then (if n.lab.2.2.1 = false then (if n.lab.2.2.2.1.length = 0 then (if n.kids.length = 0 then true else false) else false) else false) else false
def FtZero (d : iotZero.In) : Tr iotZero.Res := .ret (.ret ((spZeroN d.1.1, ()), ()))
abbrev cstZero : List (Nat × Hc) := []
def hdtZero : Hd := hdT cstZero
def lptZero : Lp := lpT []
def bodytZero (a0 : Tre tLab.den) : Option iotZero.Res := bif a0.1.snd.fst == 0 then bif !a0.1.snd.snd.fst then bif (↑(List.length a0.1.snd.snd.snd.fst) : Int) == 0 then some (Out.ret (((↑a0.2.length : Int) == 0, ()), ())) else some (Out.ret ((false, ()), ())) else some (Out.ret ((false, ()), ())) else some (Out.ret ((false, ()), ()))
theorem runtZero (a0 : Tre tLab.den) : Io.run tt hdtZero dr lptZero iotZero Go.Proofs.Tryz.f171 ((a0, ()), ()) = bodytZero a0 := by kernel_rfl
theorem oktZero : HcOk prog 171 (ioHd iotZero FtZero) := by
  refine fn_sound (n := 400) hm (cs := cstZero) HcsOk.nil (lp := lptZero) (fn := Go.Proofs.Tryz.f171) (by kernel_rfl) (by kernel_rfl) (by kernel_rfl) iotZero (.done (by kernel_rfl)) FtZero ?_
  rintro ⟨⟨(n : Nd), ⟨⟩⟩, ⟨⟩⟩ out hw ho
  cases ho
  refine (runtZero n).trans ?_
  unfold bodytZero
  show _ = some (Out.ret ((spZeroN n, ()), ()))
  unfold spZeroN
  simp only [cond_eq_ite]
  repeat' split
  all_goals simp_all
abbrev iotHere1 : Io := ⟨[dFld, dI], [], [], [dB], none⟩
def spHas (f : Fd) (v : Int) : Bool := if f.lab.2.2.1 ≤ v ∧ v ≤ f.lab.2.2.2.1 then true else false
def FtHere1 (d : iotHere1.In) : Tr iotHere1.Res := .ret (.ret ((spHas d.1.1 d.1.2.1, ()), ()))
abbrev cstHere1 : List (Nat × Hc) := []
def hdtHere1 : Hd := hdT cstHere1
def lptHere1 : Lp := lpT []
def bodytHere1 (a0 : Tre tFl.den) (a1 : Int) : Option iotHere1.Res := bif decide (a0.1.snd.snd.fst ≤ a1) then some (Out.ret ((decide (a1 ≤ a0.1.snd.snd.snd.fst), ()), ())) else some (Out.ret ((false, ()), ()))
theorem runtHere1 (a0 : Tre tFl.den) (a1 : Int) : Io.run tt hdtHere1 dr lptHere1 iotHere1 Go.Proofs.Tryz.f170 ((a0, a1, ()), ()) = bodytHere1 a0 a1 := by kernel_rfl
theorem oktHere1 : HcOk prog 170 (ioHd iotHere1 FtHere1) := by
  refine fn_sound (n := 400) hm (cs := cstHere1) HcsOk.nil (lp := lptHere1) (fn := Go.Proofs.Tryz.f170) (by kernel_rfl) (by kernel_rfl) (by kernel_rfl) iotHere1 (.done (by kernel_rfl)) FtHere1 ?_
  rintro ⟨⟨(f : Fd), (v : Int), ⟨⟩⟩, ⟨⟩⟩ out hw ho
  cases ho
  refine (runtHere1 f v).trans ?_
  unfold bodytHere1
  show _ = some (Out.ret ((spHas f v, ()), ()))
  unfold spHas
  simp only [cond_eq_ite]
  repeat' split
  all_goals simp_all
abbrev iotWidth : Io := ⟨[dI], [], [], [dI], none⟩
def spWid (k : Int) : Int := if k = 1 then 1 else if k = 2 ∨ k = 5 ∨ k = 6 then 2 else if k = 4 then 8 else 4
def FtWidth (d : iotWidth.In) : Tr iotWidth.Res := .ret (.ret ((spWid d.1.1, ()), ()))
abbrev cstWidth : List (Nat × Hc) := []
def hdtWidth : Hd := hdT cstWidth
def lptWidth : Lp := lpT []
def bodytWidth (a0 : Int) : Option iotWidth.Res := bif a0 == 1 then some (Out.ret ((1, ()), ())) else bif a0 == 2 then bif a0 == 2 then some (Out.ret ((2, ()), ())) else bif a0 == 4 then some (Out.ret ((8, ()), ())) else some (Out.ret ((4, ()), ())) else bif a0 == 5 then bif a0 == 5 then some (Out.ret ((2, ()), ())) else bif a0 == 4 then some (Out.ret ((8, ()), ())) else some (Out.ret ((4, ()), ())) else bif a0 == 6 then some (Out.ret ((2, ()), ())) else bif a0 == 4 then some (Out.ret ((8, ()), ())) else some (Out.ret ((4, ()), ()))
theorem runtWidth (a0 : Int) : Io.run tt hdtWidth dr lptWidth iotWidth Go.Proofs.Tryz.f197 ((a0, ()), ()) = bodytWidth a0 := by kernel_rfl
theorem oktWidth : HcOk prog 197 (ioHd iotWidth FtWidth) := by
  refine fn_sound (n := 400) hm (cs := cstWidth) HcsOk.nil (lp := lptWidth) (fn := Go.Proofs.Tryz.f197) (by kernel_rfl) (by kernel_rfl) (by kernel_rfl) iotWidth (.done (by kernel_rfl)) FtWidth ?_
  rintro ⟨⟨(k : Int), ⟨⟩⟩, ⟨⟩⟩ out hw ho
  cases ho
  refine (runtWidth k).trans ?_
  unfold bodytWidth
  show _ = some (Out.ret ((spWid k, ()), ()))
  unfold spWid
  simp only [cond_eq_ite]
  repeat' split
  all_goals simp_all
abbrev iotShape : Io := ⟨[dFld, dNode], [], [], [dB], none⟩
def spShN (k : Int) (n : Nd) : Bool :=
  if n.lab.1 ≠ k then false else if 4 < k ∧ n.lab.2.1 ≠ 0 then false else if (k < 5 ∨ 8 < k) ∧ 0 < n.lab.2.2.2.1.length then false else if k ≠ 6 ∧ k ≠ 8 ∧ n.lab.2.2.1 = true then false else if 8 < k ∨ n.kids.length = 0 then true else false
def FtShape (d : iotShape.In) : Tr iotShape.Res := .ret (.ret ((spShN d.1.1.lab.2.1 d.1.2.1, ()), ()))
abbrev cstShape : List (Nat × Hc) := []
def hdtShape : Hd := hdT cstShape
def lptShape : Lp := lpT []
def bodytShape (a0 : Tre tFl.den) (a1 : Tre tLab.den) : Option iotShape.Res := bif a1.1.fst != a0.1.snd.fst then some (Out.ret ((false, ()), ())) else bif decide (4 < a0.1.snd.fst) then bif a1.1.snd.fst != 0 then some (Out.ret ((false, ()), ())) else bif decide (a0.1.snd.fst < 5) then bif decide (0 < (↑(List.length a1.1.snd.snd.snd.fst) : Int)) then some (Out.ret ((false, ()), ())) else bif a0.1.snd.fst != 6 then bif a0.1.snd.fst != 8 then bif a1.1.snd.snd.fst then some (Out.ret ((false, ()), ())) else bif decide (8 < a0.1.snd.fst) then some (Out.ret ((true, ()), ())) else some (Out.ret (((↑a1.2.length : Int) == 0, ()), ())) else bif decide (8 < a0.1.snd.fst) then some (Out.ret ((true, ()), ())) else some (Out.ret (((↑a1.2.length : Int) == 0, ()), ())) else bif decide (8 < a0.1.snd.fst) then some (Out.ret ((true, ()), ())) else some (Out.ret (((↑a1.2.length : Int) == 0, ()), ())) else bif decide (8 < a0.1.snd.fst) then bif decide (0 < (↑(List.length a1.1.snd.snd.snd.fst) : Int)) then some (Out.ret ((false, ()), ())) else bif a0.1.snd.fst != 6 then bif a0.1.snd.fst != 8 then bif a1.1.snd.snd.fst then some (Out.ret ((false, ()), ())) else bif decide (8 < a0.1.snd.fst) then some (Out.ret ((true, ()), ())) else some (Out.ret (((↑a1.2.length : Int) == 0, ()), ())) else bif decide (8 < a0.1.snd.fst) then some (Out.ret ((true, ()), ())) else some (Out.ret (((↑a1.2.length : Int) == 0, ()), ())) else bif decide (8 < a0.1.snd.fst) then some (Out.ret ((true, ()), ())) else some (Out.ret (((↑a1.2.length : Int) == 0, ()), ())) else bif a0.1.snd.fst != 6 then bif a0.1.snd.fst != 8 then bif a1.1.snd.snd.fst then some (Out.ret ((false, ()), ())) else bif decide (8 < a0.1.snd.fst) then some (Out.ret ((true, ()), ())) else some (Out.ret (((↑a1.2.length : Int) == 0, ()), ())) else bif decide (8 < a0.1.snd.fst) then some (Out.ret ((true, ()), ())) else some (Out.ret (((↑a1.2.length : Int) == 0, ()), ())) else bif decide (8 < a0.1.snd.fst) then some (Out.ret ((true, ()), ())) else some (Out.ret (((↑a1.2.length : Int) == 0, ()), ())) else bif decide (a0.1.snd.fst < 5) then bif decide (0 < (↑(List.length a1.1.snd.snd.snd.fst) : Int)) then some (Out.ret ((false, ()), ())) else bif a0.1.snd.fst != 6 then bif a0.1.snd.fst != 8 then bif a1.1.snd.snd.fst then some (Out.ret ((false, ()), ())) else bif decide (8 < a0.1.snd.fst) then some (Out.ret ((true, ()), ())) else some (Out.ret (((↑a1.2.length : Int) == 0, ()), ())) else bif decide (8 < a0.1.snd.fst) then some (Out.ret ((true, ()), ())) else some (Out.ret (((↑a1.2.length : Int) == 0, ()), ())) else bif decide (8 < a0.1.snd.fst) then some (Out.ret ((true, ()), ())) else some (Out.ret (((↑a1.2.length : Int) == 0, ()), ())) else bif decide (8 < a0.1.snd.fst) then bif decide (0 < (↑(List.length a1.1.snd.snd.snd.fst) : Int)) then some (Out.ret ((false, ()), ())) else bif a0.1.snd.fst != 6 then bif a0.1.snd.fst != 8 then bif a1.1.snd.snd.fst then some (Out.ret ((false, ()), ())) else bif decide (8 < a0.1.snd.fst) then some (Out.ret ((true, ()), ())) else some (Out.ret (((↑a1.2.length : Int) == 0, ()), ())) else bif decide (8 < a0.1.snd.fst) then some (Out.ret ((true, ()), ())) else some (Out.ret (((↑a1.2.length : Int) == 0, ()), ())) else bif decide (8 < a0.1.snd.fst) then some (Out.ret ((true, ()), ())) else some (Out.ret (((↑a1.2.length : Int) == 0, ()), ())) else bif a0.1.snd.fst != 6 then bif a0.1.snd.fst != 8 then bif a1.1.snd.snd.fst then some (Out.ret ((false, ()), ())) else bif decide (8 < a0.1.snd.fst) then some (Out.ret ((true, ()), ())) else some (Out.ret (((↑a1.2.length : Int) == 0, ()), ())) else bif decide (8 < a0.1.snd.fst) then some (Out.ret ((true, ()), ())) else some (Out.ret (((↑a1.2.length : Int) == 0, ()), ())) else bif decide (8 < a0.1.snd.fst) then some (Out.ret ((true, ()), ())) else some (Out.ret (((↑a1.2.length : Int) == 0, ()), ()))
theorem runtShape (a0 : Tre tFl.den) (a1 : Tre tLab.den) : Io.run tt hdtShape dr lptShape iotShape Go.Proofs.Tryz.f173 ((a0, a1, ()), ()) = bodytShape a0 a1 := by kernel_rfl
theorem oktShape : HcOk prog 173 (ioHd iotShape FtShape) := by
  refine fn_sound (n := 400) hm (cs := cstShape) HcsOk.nil (lp := lptShape) (fn := Go.Proofs.Tryz.f173) (by kernel_rfl) (by kernel_rfl) (by kernel_rfl) iotShape (.done (by kernel_rfl)) FtShape ?_
  rintro ⟨⟨(f : Fd), (n : Nd), ⟨⟩⟩, ⟨⟩⟩ out hw ho
  cases ho
  refine (runtShape f n).trans ?_
  unfold bodytShape
  show _ = some (Out.ret ((spShN f.lab.2.1 n, ()), ()))
  unfold spShN
  obtain ⟨⟨nm, k, lo, hi, ⟨⟩⟩, e⟩ := f
  obtain ⟨⟨k', m, z, d, ⟨⟩⟩, l⟩ := n
  have hc : ∀ (c a b : Bool), (bif c then (some (Out.ret ((a, ()), ())) : Option iotShape.Res) else some (Out.ret ((b, ()), ()))) = some (Out.ret ((bif c then a else b, ()), ())) := by intro c a b; cases c <;> rfl
  simp only [hc]
  refine congrArg (fun b : Bool => some (Out.ret ((b, ()), ()))) ?_
  simp only [cond_eq_ite]
  grind
abbrev iotHere : Io := ⟨[dFlds, dI], [], [], [dFldsO], none⟩
def spHere (l : List Fd) (v : Int) : List Fd := l.filter fun f => spHas f v
def FtHere (d : iotHere.In) : Tr iotHere.Res := .ite (decide (d.1.1.length ≤ 4294967296)) (.ret (.ret ((spHere d.1.1 d.1.2.1, ()), ()))) .no
abbrev cstHere : List (Nat × Hc) := [(170, ioHd iotHere1 FtHere1)]
def hdtHere : Hd := hdT cstHere
abbrev lotHere_4 : Lo := ⟨⟨[.one (.hol (.sl 213 ((Ty.str.prod ((Ty.int IntKind.i64).prod ((Ty.int IntKind.i64).prod ((Ty.int IntKind.i64).prod Ty.unit)))).tree 213))), .one (.hol (.int IntKind.i64)), .any, .any, .any, .one (.onl 213 ((Ty.str.prod ((Ty.int IntKind.i64).prod ((Ty.int IntKind.i64).prod ((Ty.int IntKind.i64).prod Ty.unit)))).tree 213) 11), .one (.hol (.int IntKind.i64)), .any, .any, .any, .any, .any, .any, .any, .any, .any, .any, .any, .any, .any, .any, .any, .any, .any, .any, .any, .any, .any], []⟩, [(.exit 0, ⟨[.any, .any, .any, .any, .any, .one (.onl 213 ((Ty.str.prod ((Ty.int IntKind.i64).prod ((Ty.int IntKind.i64).prod ((Ty.int IntKind.i64).prod Ty.unit)))).tree 213) 11), .any, .any, .any, .any, .any, .any, .any, .any, .any, .any, .any, .any, .any, .any, .any, .any, .any, .any, .any, .any, .any, .any], []⟩)]⟩
-- FtHere_4 : lotHere_4.st.den → Tr (DenX lotHere_4.xs) | ((h2, (h3, (h4, (h5, ())))), ())
def FtHere_4 (d : lotHere_4.st.den) : Tr (DenX lotHere_4.xs) :=
  .ite (decide (d.1.2.2.1.length = 0) && (decide (d.1.2.2.2.1 = 0) && decide (d.1.1.length ≤ 4294967296))) (.ret (.ret ((), ((spHere d.1.1 d.1.2.1, ()), ())))) .no
def lptHere : Lp := lpT [(4, loHd lotHere_4 FtHere_4)]
def steptHere_4 {R : Type} (h2 : List tFld.den) (h3 : Int) (h4 : List ((Ty.str.prod ((Ty.int IntKind.i64).prod ((Ty.int IntKind.i64).prod ((Ty.int IntKind.i64).prod Ty.unit)))).tree 213).den) (h5 : Int) (next : List tFld.den → Int → List ((Ty.str.prod ((Ty.int IntKind.i64).prod ((Ty.int IntKind.i64).prod ((Ty.int IntKind.i64).prod Ty.unit)))).tree 213).den → Int → Option R) (out : DenX lotHere_4.xs → Option R) : Option R := bif decide (h5 < (↑h2.length : Int)) then bif decide (0 ≤ h5) && decide (h5 < (↑h2.length : Int)) then bif spHas (Tre.mk (h2.getD h5.toNat (Tre.mk ([], 0, 0, 0, ()) [])).1 (h2.getD h5.toNat (Tre.mk ([], 0, 0, 0, ()) [])).2) h3 then bif decide (0 ≤ h5) && decide (h5 < (↑h2.length : Int)) then bif decide (h4.length + [Tre.mk (h2.getD h5.toNat (Tre.mk ([], 0, 0, 0, ()) [])).1 (h2.getD h5.toNat (Tre.mk ([], 0, 0, 0, ()) [])).2].length ≤ 4294967296) then next (h2) (h3) (h4 ++ [Tre.mk (h2.getD h5.toNat (Tre.mk ([], 0, 0, 0, ()) [])).1 (h2.getD h5.toNat (Tre.mk ([], 0, 0, 0, ()) [])).2]) (IntKind.i64.wrap (h5 + 1)) else none else none else next (h2) (h3) (h4) (IntKind.i64.wrap (h5 + 1)) else none else out (.ret ((), ((h4, ()), ())))
def ittHere_4 (n : Nat) (h2 : List tFld.den) (h3 : Int) (h4 : List ((Ty.str.prod ((Ty.int IntKind.i64).prod ((Ty.int IntKind.i64).prod ((Ty.int IntKind.i64).prod Ty.unit)))).tree 213).den) (h5 : Int) : Option (DenX lotHere_4.xs) := lpN tt hdtHere dr lptHere 0 Go.Proofs.Tryz.f187 (topL Go.Proofs.Tryz.f187 0) n (lotHere_4.st.mk' ((h2, (h3, (h4, (h5, ())))), ())) (decX lotHere_4.xs)
theorem sltHere_4 (n : Nat) (h2 : List tFld.den) (h3 : Int) (h4 : List ((Ty.str.prod ((Ty.int IntKind.i64).prod ((Ty.int IntKind.i64).prod ((Ty.int IntKind.i64).prod Ty.unit)))).tree 213).den) (h5 : Int) : ittHere_4 (n + 1) h2 h3 h4 h5 = steptHere_4 h2 h3 h4 h5 (ittHere_4 n) some := by kernel_rfl
theorem nd_eta (f : Nd) : Tre.mk f.lab f.kids = f := by cases f; rfl
theorem looptHere {l : List Fd} (v : Int) (hl : l.length ≤ 4294967296) : ∀ (k j : Nat) (o : List Fd), l.length < j + k → j ≤ l.length → o.length ≤ j →
    ittHere_4 k l v o j = some (.ret ((), ((o ++ spHere (l.drop j) v, ()), ()))) := by
  intro k
  induction k with
  | zero => intro j o h1 h2 h3; omega
  | succ k ih =>
    intro j o h1 h2 h3
    rw [sltHere_4]
    unfold steptHere_4
    by_cases hj : j < l.length
    · refine (bif_true (decide_eq_true (show (j : Int) < (l.length : Int) by omega)) _ _).trans ?_
      refine (bif_true (by simp; omega) _ _).trans ?_
      have hg : List.getD l ((j : Int)).toNat (Tre.mk (([] : List Int), (0 : Int), (0 : Int), (0 : Int), ()) ([] : List Fd)) = l[j] := by simp only [Int.toNat_natCast]; exact getD_lt hj
      simp only [hg]
      rw [wrap_i64 (n := (j : Int) + 1) (by omega) (by omega)]
      have hd : l.drop j = l[j] :: l.drop (j + 1) := List.drop_eq_getElem_cons hj
      generalize l[j] = x at hd ⊢
      obtain ⟨a, ks⟩ := x
      by_cases hh : spHas (Tre.mk a ks) v = true
      · refine (bif_true hh _ _).trans ?_
        refine (bif_true (by simp; omega) _ _).trans ?_
        refine (bif_true (decide_eq_true (show o.length + 1 ≤ 4294967296 by omega)) _ _).trans ?_
        refine (ih (j + 1) (o ++ [Tre.mk a ks]) (by omega) (by omega) (by simp; omega)).trans ?_
        rw [hd]
        simp [spHere, hh]
      · have hh : spHas (Tre.mk a ks) v = false := by simpa using hh
        refine (bif_false hh _ _).trans ?_
        refine (ih (j + 1) o (by omega) (by omega) (by omega)).trans ?_
        rw [hd]
        simp [spHere, hh]
    · refine (bif_false (decide_eq_false (show ¬ (j : Int) < (l.length : Int) by omega)) _ _).trans ?_
      rw [List.drop_of_length_le (by omega)]
      simp [spHere]
def bodytHere (a0 : List tFld.den) (a1 : Int) : Option iotHere.Res := (FtHere_4 ((a0, (a1, ([], (0, ())))), ())).run fun y => match y with | .ret ((), ((x15, ()), ())) => (some (Out.ret ((x15, ()), ())))
theorem runtHere (a0 : List tFld.den) (a1 : Int) : Io.run tt hdtHere dr lptHere iotHere Go.Proofs.Tryz.f187 ((a0, a1, ()), ()) = bodytHere a0 a1 := by kernel_rfl
theorem oktHere : HcOk prog 187 (ioHd iotHere FtHere) := by
  refine fn_sound (n := 400) hm (cs := cstHere) (.cons oktHere1 .nil) (lp := lptHere) (fn := Go.Proofs.Tryz.f187) (by kernel_rfl) (by kernel_rfl) (by kernel_rfl) iotHere (.step (h0 := loHd lotHere_4 FtHere_4) (by kernel_rfl) (loop_sound (n := 400) hm (cs := cstHere) (.cons oktHere1 .nil) (lp := lptHere) (fn := Go.Proofs.Tryz.f187) (.done (by kernel_rfl)) lotHere_4 FtHere_4 ?_) (.done (by kernel_rfl))) FtHere ?_
  · rintro ⟨⟨(l : List Fd), (v : Int), (o : List Fd), (i : Int), ⟨⟩⟩, ⟨⟩⟩ y hw hy
    obtain ⟨hg, hy⟩ := Tr.guard hy
    simp only [Bool.and_eq_true, decide_eq_true_eq] at hg
    obtain ⟨h1, h2, h3⟩ := hg
    have h1 : o = [] := List.eq_nil_of_length_eq_zero h1
    have h2 : i = 0 := h2
    have h3 : l.length ≤ 4294967296 := h3
    subst h1
    subst h2
    refine ⟨l.length + 1, (looptHere v h3 (l.length + 1) 0 [] (by omega) (by omega) (by simp)).trans ?_⟩
    rw [← hy]; rfl
  · rintro ⟨⟨(l : List Fd), (v : Int), ⟨⟩⟩, ⟨⟩⟩ out hw ho
    obtain ⟨hg, ho⟩ := Tr.guard ho
    have hg : l.length ≤ 4294967296 := of_decide_eq_true hg
    cases ho
    refine (runtHere l v).trans ?_
    unfold bodytHere
    have e : FtHere_4 ((l, (v, (([] : List Fd), (0, ())))), ()) = .ite true (.ret (.ret ((), ((spHere l v, ()), ())))) .no := congrArg (fun c => Tr.ite c _ _) (by simp [hg])
    rw [e]
    rfl
end
end Go.Proofs.YtjpeefegeobgfaaGreat.Sym
namespace Go.Proofs.YtjpeefegeobgfaaGreat.Sym
open Go
set_option linter.unusedSimpArgs false
set_option linter.unusedVariables false
structure FuT where
  n : Nat
@[irreducible] noncomputable def spFuel [i : Inhabited FuT] : Nat := i.default.n
mutual
def Tre.wt {α : Type} (f : α → Nat) : Tre α → Nat
  | .mk l ks => 1 + f l + Tre.wts f ks
def Tre.wts {α : Type} (f : α → Nat) : List (Tre α) → Nat
  | [] => 0
  | k :: ks => k.wt f + Tre.wts f ks
end
theorem Tre.wt_pos {α : Type} (f : α → Nat) (t : Tre α) : 1 ≤ t.wt f := by cases t; simp only [Tre.wt]; omega
theorem Tre.wts_len {α : Type} (f : α → Nat) : ∀ l : List (Tre α), l.length ≤ Tre.wts f l
  | [] => Nat.zero_le _
  | k :: ks => by
    have h1 := k.wt_pos f
    have h2 := Tre.wts_len f ks
    simp only [Tre.wts, List.length_cons]; omega
theorem Tre.wts_mem {α : Type} {f : α → Nat} {k : Tre α} : ∀ {l : List (Tre α)}, k ∈ l → k.wt f ≤ Tre.wts f l
  | k' :: ks, h => by
    simp only [Tre.wts]
    rcases List.mem_cons.1 h with rfl | h
    · omega
    · have := Tre.wts_mem (f := f) h; omega
theorem Tre.wt_eq {α : Type} (f : α → Nat) (t : Tre α) : t.wt f = 1 + f t.lab + Tre.wts f t.kids := by cases t; rfl
noncomputable section
@[irreducible] noncomputable def spWt (n : Nd) : Nat := n.wt fun l => l.2.2.2.1.length
@[irreducible] noncomputable def spWts (l : List Nd) : Nat := Tre.wts (fun l => l.2.2.2.1.length) l
theorem spWt_eq (n : Nd) : spWt n = 1 + n.lab.2.2.2.1.length + spWts n.kids := by unfold spWt spWts; exact Tre.wt_eq _ n
theorem spWt_mem {k : Nd} {l : List Nd} (h : k ∈ l) : spWt k ≤ spWts l := by unfold spWt spWts; exact Tre.wts_mem h
theorem spWts_len (l : List Nd) : l.length ≤ spWts l := by unfold spWts; exact Tre.wts_len _ l
open Classical in
def spEqN (a b : Nd) : Bool := if a = b then true else false
open Classical in
def spEqNs (a b : List Nd) : Bool := if a = b then true else false
theorem spEqN_iff {a b : Nd} : spEqN a b = true ↔ a = b := by unfold spEqN; split <;> simp_all
theorem spEqNs_iff {a b : List Nd} : spEqNs a b = true ↔ a = b := by unfold spEqNs; split <;> simp_all
theorem FuT.val (n : Nat) : @spFuel ⟨⟨n⟩⟩ = n := by unfold spFuel; rfl
theorem HcOk.none {f : Nat} {fn : Func} (hf : prog.funcs[f]? = some fn) (hname : (fn.name == "runtime.NumGoroutine") = false) (hbody : fn.body.isNone = false) (io : Io) (Fn : io.In → Tr io.Res) (hn : ∀ d out, (Fn d).val ≠ some out) : HcOk prog f (ioHd io Fn) :=
  io_soundG (ttOf_ok prog 400) hf hname io Fn (fun d out _ h => absurd h (hn d out)) hbody
theorem Tr.val_run {α R : Type} : ∀ {t : Tr α} {K : α → Option R} {a : α}, t.val = some a → t.run K = K a
  | .ret a, K, b, h => by simp only [Tr.val, Tr.run, Option.some.injEq] at h; subst h; rfl
  | .no, K, b, h => by cases h
  | .ite c t e, K, b, h => by
    cases c with
    | true => exact Tr.val_run (t := t) h
    | false => exact Tr.val_run (t := e) h
theorem HcOk.lim {f : Nat} {io : Io} {Fs : Nat → io.In → Tr io.Res} {Fn : io.In → Tr io.Res} (h : ∀ n, HcOk prog f (ioHd io (Fs n))) (hF : ∀ d, ∃ n, ∀ out, (Fn d).val = some out → (Fs n d).val = some out) : HcOk prog f (ioHd io Fn) := by
  intro R args id A K r F G ts cst w vals hid hc Rl hv
  unfold ioHd at hc
  cases h1 : mVs io.args args (List.replicate io.obs.length Option.none) with
  | none => rw [h1] at hc; cases hc
  | some p =>
    obtain ⟨a, β1⟩ := p
    rw [h1] at hc
    simp only at hc
    cases h2 : mOb A.ob io.obs 0 β1 with
    | none => rw [h2] at hc; cases hc
    | some q =>
      obtain ⟨o, β⟩ := q
      rw [h2] at hc
      simp only at hc
      obtain ⟨n, hn⟩ := hF (a, o)
      refine h n R args id A K r F G ts cst w vals hid ?_ Rl hv
      unfold ioHd
      rw [h1]
      simp only [h2]
      revert hc
      cases nodupB ((owVs (idTmp 0) io.args args 0 ++ owOb A.ob β (bnId io.obs.length 0) io.obs 0).map (·.2)) && (nodupB ((owVs (idTmp 0) io.args args 0 ++ owOb A.ob β (bnId io.obs.length 0) io.obs 0).map (·.1)) && io.ok) with
      | false => intro hc; cases hc
      | true =>
        intro hc
        obtain ⟨out, ho, hk⟩ := Tr.run_val hc
        exact (Tr.val_run (hn out ho)).trans hk
theorem spWt_pos (n : Nd) : 1 ≤ spWt n := by rw [spWt_eq]; omega
theorem spEqN_mk {a b c d : Int} {z z' : Bool} {x y : List Int} {l m : List Nd} : spEqN (.mk (a, (c, (z, (x, ())))) l) (.mk (b, (d, (z', (y, ())))) m) = true ↔ a = b ∧ c = d ∧ z = z' ∧ x = y ∧ l = m := by
  rw [spEqN_iff]
  constructor
  · intro h
    injection h with h1 h2
    injection h1 with h3 h4
    injection h4 with h5 h6
    injection h6 with h7 h8
    injection h8 with h9 h10
    exact ⟨h3, h5, h7, h9, h2⟩
  · rintro ⟨rfl, rfl, rfl, rfl, rfl⟩; rfl
abbrev iotAlike : Io := ⟨[dNode, dNode], [], [], [dB], none⟩
def FtAlikeN (n : Nat) (d : iotAlike.In) : Tr iotAlike.Res := .ite (decide (spWt d.1.1 < n)) (.ret (.ret ((spEqN d.1.1 d.1.2.1, ()), ()))) .no
def FtAlike (d : iotAlike.In) : Tr iotAlike.Res := .ret (.ret ((spEqN d.1.1 d.1.2.1, ()), ()))
section
variable [Inhabited FuT]
abbrev cstAlike : List (Nat × Hc) := [(49, ioHd ioSame FSame), (66, ioHd iotAlike (FtAlikeN spFuel))]
def hdtAlike : Hd := hdT cstAlike
abbrev lotAlike_5 : Lo := ⟨⟨[.any, .any, .one (.ptr 2 0), .one (.ptr 3 0), .any, .one (.hol (.int IntKind.i64)), .any, .any, .any, .any, .any, .any, .any, .any, .any, .any, .any, .any, .any, .any, .any, .any, .any, .any, .any, .any, .any, .any, .any, .any, .any, .any, .any, .any, .any, .any, .any, .any, .any, .any, .any, .any, .any, .any, .any, .any, .any, .any, .any, .any, .any, .any, .any, .any, .any, .any, .any, .any, .any, .any, .any], [none, none, some [.hol (.int IntKind.i64), .hol (.int IntKind.i64), .hol .bool, .hol (.sl 5 (Ty.int IntKind.u8)), .hol (.sl 98 tNode)], some [.hol (.int IntKind.i64), .hol (.int IntKind.i64), .hol .bool, .hol (.sl 5 (Ty.int IntKind.u8)), .hol (.sl 98 tNode)]]⟩, [(.ret, ⟨[.any, .any, .any, .any, .one (.hol .bool), .any, .any, .any, .any, .any, .any, .any, .any, .any, .any, .any, .any, .any, .any, .any, .any, .any, .any, .any, .any, .any, .any, .any, .any, .any, .any, .any, .any, .any, .any, .any, .any, .any, .any, .any, .any, .any, .any, .any, .any, .any, .any, .any, .any, .any, .any, .any, .any, .any, .any, .any, .any, .any, .any, .any, .any], []⟩), (.exit 0, ⟨[.any, .any, .any, .any, .any, .any, .any, .any, .any, .any, .any, .any, .any, .any, .any, .any, .any, .any, .any, .any, .any, .any, .any, .any, .any, .any, .any, .any, .any, .any, .any, .any, .any, .any, .any, .any, .any, .any, .any, .any, .any, .any, .any, .any, .any, .any, .any, .any, .any, .any, .any, .any, .any, .any, .any, .any, .any, .any, .any, .any, .any], []⟩)]⟩
-- FtAlike_5 : lotAlike_5.st.den → Tr (DenX lotAlike_5.xs) | ((h2, ()), ((h3, (h4, (h5, (h6, (h7, ()))))), ((h8, (h9, (h10, (h11, (h12, ()))))), ())))
def FtAlike_5 (d : lotAlike_5.st.den) : Tr (DenX lotAlike_5.xs) :=
  .ite (decide (d.1.1 = 0) && (decide (d.2.1.2.2.2.2.1.length = d.2.2.1.2.2.2.2.1.length) && decide (spWts d.2.1.2.2.2.2.1 < spFuel))) (.ite (spEqNs d.2.1.2.2.2.2.1 d.2.2.1.2.2.2.2.1) (.ret (.pan (.ret ((), ((), ()))))) (.ret (.ret ((), ((false, ()), ()))))) .no
def lptAlike : Lp := lpT [(5, loHd lotAlike_5 FtAlike_5)]
def steptAlike_5 {R : Type} (h2 : Int) (h3 : Int) (h4 : Int) (h5 : Bool) (h6 : List Int) (h7 : List (Nd)) (h8 : Int) (h9 : Int) (h10 : Bool) (h11 : List Int) (h12 : List (Nd)) (next : Int → Int → Int → Bool → List Int → List (Nd) → Int → Int → Bool → List Int → List (Nd) → Option R) (out : DenX lotAlike_5.xs → Option R) : Option R := bif decide (h2 < (↑h7.length : Int)) then bif decide (0 ≤ h2) && decide (h2 < (↑h7.length : Int)) then bif decide (0 ≤ h2) && decide (h2 < (↑h12.length : Int)) then bif decide (spWt (Tre.mk (h7.getD h2.toNat (Tre.mk (0, 0, false, [], ()) [])).1 (h7.getD h2.toNat (Tre.mk (0, 0, false, [], ()) [])).2) < spFuel) then bif !spEqN (Tre.mk (h7.getD h2.toNat (Tre.mk (0, 0, false, [], ()) [])).1 (h7.getD h2.toNat (Tre.mk (0, 0, false, [], ()) [])).2) (Tre.mk (h12.getD h2.toNat (Tre.mk (0, 0, false, [], ()) [])).1 (h12.getD h2.toNat (Tre.mk (0, 0, false, [], ()) [])).2) then out (.ret ((), ((false, ()), ()))) else next (IntKind.i64.wrap (h2 + 1)) (h3) (h4) (h5) (h6) (h7) (h8) (h9) (h10) (h11) (h12) else none else none else none else out (.pan (.ret ((), ((), ()))))
def ittAlike_5 (n : Nat) (h2 : Int) (h3 : Int) (h4 : Int) (h5 : Bool) (h6 : List Int) (h7 : List (Nd)) (h8 : Int) (h9 : Int) (h10 : Bool) (h11 : List Int) (h12 : List (Nd)) : Option (DenX lotAlike_5.xs) := lpN tt hdtAlike dr lptAlike 0 Go.Proofs.Tryz.f66 (topL Go.Proofs.Tryz.f66 0) n (lotAlike_5.st.mk' ((h2, ()), ((h3, (h4, (h5, (h6, (h7, ()))))), ((h8, (h9, (h10, (h11, (h12, ()))))), ())))) (decX lotAlike_5.xs)
theorem sltAlike_5 (n : Nat) (h2 : Int) (h3 : Int) (h4 : Int) (h5 : Bool) (h6 : List Int) (h7 : List (Nd)) (h8 : Int) (h9 : Int) (h10 : Bool) (h11 : List Int) (h12 : List (Nd)) : ittAlike_5 (n + 1) h2 h3 h4 h5 h6 h7 h8 h9 h10 h11 h12 = steptAlike_5 h2 h3 h4 h5 h6 h7 h8 h9 h10 h11 h12 (ittAlike_5 n) some := by kernel_rfl
theorem looptAlike {l m : List Nd} (hlm : l.length = m.length) (hl : l.length ≤ maxLen) (hw : spWts l < spFuel) (a b c d : Int) (z z' : Bool) (x y : List Int) : ∀ (k j : Nat), l.length < j + k → j ≤ l.length → l.take j = m.take j →
    ittAlike_5 k j a b z x l c d z' y m = if spEqNs l m = true then some (.pan (.ret ((), ((), ())))) else some (.ret ((), ((false, ()), ()))) := by
  intro k
  induction k with
  | zero => intro j h1 h2; omega
  | succ k ih =>
    intro j h1 h2 h3
    rw [sltAlike_5]
    unfold steptAlike_5
    by_cases hj : j < l.length
    · have hj' : j < m.length := by omega
      refine (bif_true (decide_eq_true (show (j : Int) < (l.length : Int) by omega)) _ _).trans ?_
      refine (bif_true (by simp; omega) _ _).trans ?_
      refine (bif_true (by simp; omega) _ _).trans ?_
      rw [wrap_succ hj hl]
      have hmem := spWt_mem (List.getElem_mem hj)
      have ht : l.take (j + 1) = m.take (j + 1) ↔ l[j] = m[j] := by
        rw [List.take_succ_eq_append_getElem hj, List.take_succ_eq_append_getElem hj', h3]
        exact ⟨fun h => by have := (List.append_inj' h rfl).2; injection this, fun h => by rw [h]⟩
      have hne : l[j] ≠ m[j] → l ≠ m := fun h e => h (by subst e; rfl)
      have ih' := ih (j + 1) (by omega) (by omega)
      simp only [Int.toNat_natCast, getD_lt hj, getD_lt hj']
      generalize l[j] = u at hmem ht hne ⊢
      generalize m[j] = v at ht hne ⊢
      obtain ⟨ul, uk⟩ := u
      obtain ⟨vl, vk⟩ := v
      refine (bif_true (decide_eq_true (show spWt (Tre.mk ul uk) < spFuel by omega)) _ _).trans ?_
      by_cases he : spEqN (Tre.mk ul uk) (Tre.mk vl vk) = true
      · refine (bif_false (show (!spEqN (Tre.mk ul uk) (Tre.mk vl vk)) = false by rw [he]; rfl) _ _).trans ?_
        exact ih' (ht.2 (spEqN_iff.1 he))
      · refine (bif_true (show (!spEqN (Tre.mk ul uk) (Tre.mk vl vk)) = true by simpa using he) _ _).trans ?_
        rw [if_neg (fun h => hne (fun e => he (spEqN_iff.2 e)) (spEqNs_iff.1 h))]
    · refine (bif_false (decide_eq_false (show ¬ (j : Int) < (l.length : Int) by omega)) _ _).trans ?_
      rw [List.take_of_length_le (by omega), List.take_of_length_le (by omega)] at h3
      rw [if_pos (spEqNs_iff.2 h3)]
def bodytAlike (a0 : Nd) (a1 : Nd) : Option iotAlike.Res := bif a0.1.fst != a1.1.fst then some (Out.ret ((false, ()), ())) else bif a0.1.snd.fst != a1.1.snd.fst then some (Out.ret ((false, ()), ())) else bif !a0.1.snd.snd.fst == a1.1.snd.snd.fst then some (Out.ret ((false, ()), ())) else bif !decide (a0.1.snd.snd.snd.fst = a1.1.snd.snd.snd.fst) then some (Out.ret ((false, ()), ())) else bif (↑a0.2.length : Int) != (↑a1.2.length : Int) then some (Out.ret ((false, ()), ())) else (FtAlike_5 ((0, ()), ((a0.1.fst, (a0.1.snd.fst, (a0.1.snd.snd.fst, (a0.1.snd.snd.snd.fst, (a0.2, ()))))), ((a1.1.fst, (a1.1.snd.fst, (a1.1.snd.snd.fst, (a1.1.snd.snd.snd.fst, (a1.2, ()))))), ())))).run fun y => match y with | .ret ((), ((x25, ()), ())) => (some (Out.ret ((x25, ()), ()))) | .pan (.ret ((), ((), ()))) => (some (Out.ret ((true, ()), ())))
theorem runtAlike (a0 : Nd) (a1 : Nd) : Io.run tt hdtAlike dr lptAlike iotAlike Go.Proofs.Tryz.f66 ((a0, a1, ()), ()) = bodytAlike a0 a1 := by kernel_rfl
theorem oktAlikeS (rtAlike : HcOk prog 66 (ioHd iotAlike (FtAlikeN spFuel))) : HcOk prog 66 (ioHd iotAlike (FtAlikeN (spFuel + 1))) := by
  refine fn_sound (n := 400) hm (cs := cstAlike) (.cons okSame (.cons rtAlike .nil)) (lp := lptAlike) (fn := Go.Proofs.Tryz.f66) (by kernel_rfl) (by kernel_rfl) (by kernel_rfl) iotAlike (.step (h0 := loHd lotAlike_5 FtAlike_5) (by kernel_rfl) (loop_sound (n := 400) hm (cs := cstAlike) (.cons okSame (.cons rtAlike .nil)) (lp := lptAlike) (fn := Go.Proofs.Tryz.f66) (.done (by kernel_rfl)) lotAlike_5 FtAlike_5 ?_) (.done (by kernel_rfl))) (FtAlikeN (spFuel + 1)) ?_
  · rintro ⟨⟨(i : Int), ⟨⟩⟩, ⟨⟨(a : Int), (b : Int), (z : Bool), (x : List Int), (l : List Nd), ⟨⟩⟩, ⟨(c : Int), (d : Int), (z' : Bool), (y' : List Int), (m : List Nd), ⟨⟩⟩, ⟨⟩⟩⟩ y hw hy
    obtain ⟨hg, hy⟩ := Tr.guard hy
    simp only [Bool.and_eq_true, decide_eq_true_eq] at hg
    obtain ⟨h1, h2, h3⟩ := hg
    have h1 : i = 0 := h1
    have h2 : l.length = m.length := h2
    have h3 : spWts l < spFuel := h3
    subst h1
    refine ⟨l.length + 1, (looptAlike h2 (by have := hw.2.1.2.2.2.2.1.1; exact this) h3 a b c d z z' x y' (l.length + 1) 0 (by omega) (by omega) rfl).trans ?_⟩
    rw [← hy]
    by_cases h : spEqNs l m = true
    · rw [if_pos h]; exact (bif_true h _ _).symm
    · rw [if_neg h]; exact (bif_false (by simpa using h) _ _).symm
  · rintro ⟨⟨(a : Nd), (b : Nd), ⟨⟩⟩, ⟨⟩⟩ out hw ho
    obtain ⟨hg, ho⟩ := Tr.guard ho
    have hk : spWt a < spFuel + 1 := of_decide_eq_true hg
    clear hg
    cases ho
    refine (runtAlike a b).trans ?_
    unfold bodytAlike
    show _ = some (Out.ret ((spEqN a b, ()), ()))
    obtain ⟨⟨a1, a2, a3, a4, ⟨⟩⟩, a5⟩ := a
    obtain ⟨⟨b1, b2, b3, b4, ⟨⟩⟩, b5⟩ := b
    rw [spWt_eq] at hk
    have hk : 1 + a4.length + spWts a5 < spFuel + 1 := hk
    have key := spEqN_mk (a := a1) (b := b1) (c := a2) (d := b2) (z := a3) (z' := b3) (x := a4) (y := b4) (l := a5) (m := b5)
    have no : ¬ (a1 = b1 ∧ a2 = b2 ∧ a3 = b3 ∧ a4 = b4 ∧ a5 = b5) → spEqN (Tre.mk (a1, (a2, (a3, (a4, ())))) a5) (Tre.mk (b1, (b2, (b3, (b4, ())))) b5) = false := fun h => by
      rw [Bool.eq_false_iff]; exact fun e => h (key.1 e)
    by_cases h1 : a1 = b1
    · refine (bif_false (by simpa using h1) _ _).trans ?_
      by_cases h2 : a2 = b2
      · refine (bif_false (by simpa using h2) _ _).trans ?_
        by_cases h3 : a3 = b3
        · refine (bif_false (by simp [h3]) _ _).trans ?_
          by_cases h4 : a4 = b4
          · refine (bif_false (by simp [h4]) _ _).trans ?_
            by_cases h5 : a5.length = b5.length
            · refine (bif_false (by simp [h5]) _ _).trans ?_
              have c1 : (decide ((0 : Int) = 0) && (decide (a5.length = b5.length) && decide (spWts a5 < spFuel))) = true := by simp; omega
              have e1 : FtAlike_5 ((0, ()), ((a1, (a2, (a3, (a4, (a5, ()))))), ((b1, (b2, (b3, (b4, (b5, ()))))), ()))) = .ite true (.ite (spEqNs a5 b5) (.ret (.pan (.ret ((), ((), ()))))) (.ret (.ret ((), ((false, ()), ()))))) .no := congrArg (fun c => Tr.ite c _ _) c1
              rw [e1]
              by_cases h6 : a5 = b5
              · rw [spEqNs_iff.2 h6, key.2 ⟨h1, h2, h3, h4, h6⟩]; rfl
              · have : spEqNs a5 b5 = false := by rw [Bool.eq_false_iff]; exact fun e => h6 (spEqNs_iff.1 e)
                rw [this, no (fun h => h6 h.2.2.2.2)]; rfl
            · refine (bif_true (bne_iff_ne.2 (fun e => h5 (Int.ofNat.inj e))) _ _).trans ?_
              rw [no (fun h => h5 (by rw [h.2.2.2.2]))]
          · refine (bif_true (by simp [h4]) _ _).trans ?_
            rw [no (fun h => h4 h.2.2.2.1)]
        · refine (bif_true (by cases a3 <;> cases b3 <;> simp_all) _ _).trans ?_
          rw [no (fun h => h3 h.2.2.1)]
      · refine (bif_true (by simpa using h2) _ _).trans ?_
        rw [no (fun h => h2 h.2.1)]
    · refine (bif_true (by simpa using h1) _ _).trans ?_
      rw [no (fun h => h1 h.1)]
end
theorem oktAlikeN (n : Nat) : HcOk prog 66 (ioHd iotAlike (FtAlikeN n)) := by
  induction n with
  | zero => exact HcOk.none (fn := Go.Proofs.Tryz.f66) (by kernel_rfl) (by kernel_rfl) (by kernel_rfl) _ _ fun d out h => by cases h
  | succ n ih =>
    have := @oktAlikeS ⟨⟨n⟩⟩ (by rw [FuT.val]; exact ih)
    rw [FuT.val] at this
    exact this
theorem oktAlike : HcOk prog 66 (ioHd iotAlike FtAlike) := by
  refine HcOk.lim oktAlikeN fun d => ⟨spWt d.1.1 + 1, fun out h => ?_⟩
  exact (bif_true (decide_eq_true (Nat.lt_succ_self _)) _ _).trans h
abbrev iotTwin : Io := ⟨[dNode], [], [], [dNode], none⟩
def FtTwinN (n : Nat) (d : iotTwin.In) : Tr iotTwin.Res := .ite (decide (spWt d.1.1 < n) && decide (spWt d.1.1 ≤ 4294967296)) (.ret (.ret ((d.1.1, ()), ()))) .no
def FtTwin (d : iotTwin.In) : Tr iotTwin.Res := .ite (decide (spWt d.1.1 ≤ 4294967296)) (.ret (.ret ((d.1.1, ()), ()))) .no
section
variable [Inhabited FuT]
abbrev cstTwin : List (Nat × Hc) := [(46, ioHd ioCopy FCopy), (51, ioHd iotTwin (FtTwinN spFuel))]
def hdtTwin : Hd := hdT cstTwin
abbrev lotTwin_4 : Lo := ⟨⟨[.any, .one (.ptr 1 0), .one (.ptr 2 0), .one (.onl 98 tNode 7), .one (.hol (.int IntKind.i64)), .any, .any, .any, .any, .any, .any, .any, .any, .any, .any, .any, .any, .any, .any, .any, .any, .any, .any, .any, .any, .any, .any, .any, .any, .any, .any, .any, .any], [none, some [.hol (.int IntKind.i64), .hol (.int IntKind.i64), .hol .bool, .hol (.sl 5 (Ty.int IntKind.u8)), .hol (.sl 98 tNode)], some [.hol (.int IntKind.i64), .hol (.int IntKind.i64), .hol .bool, .onl 5 (Ty.int IntKind.u8) 1032, .onl 98 tNode 1034]]⟩, [(.exit 0, ⟨[.any, .one (.ptr 1 0), .one (.ptr 2 0), .one (.onl 98 tNode 7), .any, .any, .any, .any, .any, .any, .any, .any, .any, .any, .any, .any, .any, .any, .any, .any, .any, .any, .any, .any, .any, .any, .any, .any, .any, .any, .any, .any, .any], [none, some [.hol (.int IntKind.i64), .hol (.int IntKind.i64), .hol .bool, .hol (.sl 5 (Ty.int IntKind.u8)), .hol (.sl 98 tNode)], some [.hol (.int IntKind.i64), .hol (.int IntKind.i64), .hol .bool, .onl 5 (Ty.int IntKind.u8) 1032, .onl 98 tNode 1034]]⟩)]⟩
-- FtTwin_4 : lotTwin_4.st.den → Tr (DenX lotTwin_4.xs) | ((h1, (h2, ())), ((h3, (h4, (h5, (h6, (h7, ()))))), ((h8, (h9, (h10, (h11, (h12, ()))))), ())))
def FtTwin_4 (d : lotTwin_4.st.den) : Tr (DenX lotTwin_4.xs) :=
  .ite (decide (d.1.1.length = 0) && (decide (d.1.2.1 = 0) && (decide (spWts d.2.1.2.2.2.2.1 < spFuel) && decide (spWts d.2.1.2.2.2.2.1 ≤ 4294967296)))) (.ret (.ret ((), ((d.2.1.2.2.2.2.1, ()), d.2)))) .no
def lptTwin : Lp := lpT [(4, loHd lotTwin_4 FtTwin_4)]
def steptTwin_4 {R : Type} (h1 : List tNode.den) (h2 : Int) (h3 : Int) (h4 : Int) (h5 : Bool) (h6 : List Int) (h7 : List (Nd)) (h8 : Int) (h9 : Int) (h10 : Bool) (h11 : List Int) (h12 : List tNode.den) (next : List tNode.den → Int → Int → Int → Bool → List Int → List (Nd) → Int → Int → Bool → List Int → List tNode.den → Option R) (out : DenX lotTwin_4.xs → Option R) : Option R := bif decide (h2 < (↑h7.length : Int)) then bif decide (0 ≤ h2) && decide (h2 < (↑h7.length : Int)) then bif decide (spWt (Tre.mk (h7.getD h2.toNat (Tre.mk (0, 0, false, [], ()) [])).1 (h7.getD h2.toNat (Tre.mk (0, 0, false, [], ()) [])).2) < spFuel) && decide (spWt (Tre.mk (h7.getD h2.toNat (Tre.mk (0, 0, false, [], ()) [])).1 (h7.getD h2.toNat (Tre.mk (0, 0, false, [], ()) [])).2) ≤ 4294967296) then bif decide (h1.length + 1 ≤ 4294967296) then next (h1 ++ [Tre.mk (h7.getD h2.toNat (Tre.mk (0, 0, false, [], ()) [])).1 (h7.getD h2.toNat (Tre.mk (0, 0, false, [], ()) [])).2]) (IntKind.i64.wrap (h2 + 1)) (h3) (h4) (h5) (h6) (h7) (h8) (h9) (h10) (h11) (h12) else none else none else none else out (.ret ((), ((h1, ()), ((h3, (h4, (h5, (h6, (h7, ()))))), ((h8, (h9, (h10, (h11, (h12, ()))))), ())))))
def ittTwin_4 (n : Nat) (h1 : List tNode.den) (h2 : Int) (h3 : Int) (h4 : Int) (h5 : Bool) (h6 : List Int) (h7 : List (Nd)) (h8 : Int) (h9 : Int) (h10 : Bool) (h11 : List Int) (h12 : List tNode.den) : Option (DenX lotTwin_4.xs) := lpN tt hdtTwin dr lptTwin 0 Go.Proofs.Tryz.f51 (topL Go.Proofs.Tryz.f51 0) n (lotTwin_4.st.mk' ((h1, (h2, ())), ((h3, (h4, (h5, (h6, (h7, ()))))), ((h8, (h9, (h10, (h11, (h12, ()))))), ())))) (decX lotTwin_4.xs)
theorem sltTwin_4 (n : Nat) (h1 : List tNode.den) (h2 : Int) (h3 : Int) (h4 : Int) (h5 : Bool) (h6 : List Int) (h7 : List (Nd)) (h8 : Int) (h9 : Int) (h10 : Bool) (h11 : List Int) (h12 : List tNode.den) : ittTwin_4 (n + 1) h1 h2 h3 h4 h5 h6 h7 h8 h9 h10 h11 h12 = steptTwin_4 h1 h2 h3 h4 h5 h6 h7 h8 h9 h10 h11 h12 (ittTwin_4 n) some := by kernel_rfl
theorem looptTwin {l : List Nd} (hw : spWts l < spFuel) (hb : spWts l ≤ 4294967296) (a b : Int) (z : Bool) (x : List Int) (c d : Int) (z' : Bool) (y : List Int) (m : List Nd) : ∀ (k j : Nat), l.length < j + k → j ≤ l.length →
    ittTwin_4 k (l.take j) j a b z x l c d z' y m = some (.ret ((), ((l, ()), ((a, (b, (z, (x, (l, ()))))), ((c, (d, (z', (y, (m, ()))))), ()))))) := by
  intro k
  induction k with
  | zero => intro j h1 h2; omega
  | succ k ih =>
    intro j h1 h2
    rw [sltTwin_4]
    unfold steptTwin_4
    by_cases hj : j < l.length
    · refine (bif_true (decide_eq_true (show (j : Int) < (l.length : Int) by omega)) _ _).trans ?_
      refine (bif_true (by simp; omega) _ _).trans ?_
      have hlen := spWts_len l
      rw [wrap_i64 (n := (j : Int) + 1) (by omega) (by omega)]
      have hmem := spWt_mem (List.getElem_mem hj)
      have ht : l.take (j + 1) = l.take j ++ [l[j]] := List.take_succ_eq_append_getElem hj
      have ih' := ih (j + 1) (by omega) (by omega)
      rw [ht] at ih'
      simp only [Int.toNat_natCast, getD_lt hj]
      generalize l[j] = u at hmem ht ih' ⊢
      obtain ⟨ul, uk⟩ := u
      refine (bif_true (show (decide (spWt (Tre.mk ul uk) < spFuel) && decide (spWt (Tre.mk ul uk) ≤ 4294967296)) = true by simp; omega) _ _).trans ?_
      refine (bif_true (decide_eq_true (show (l.take j).length + 1 ≤ 4294967296 by simp; omega)) _ _).trans ?_
      exact ih'
    · refine (bif_false (decide_eq_false (show ¬ (j : Int) < (l.length : Int) by omega)) _ _).trans ?_
      rw [List.take_of_length_le (by omega)]
def bodytTwin (a0 : Nd) : Option iotTwin.Res := (FtTwin_4 (([], (0, ())), ((a0.1.fst, (a0.1.snd.fst, (a0.1.snd.snd.fst, (a0.1.snd.snd.snd.fst, (a0.2, ()))))), ((0, (0, (false, ([], ([], ()))))), ())))).run fun y => match y with | .ret ((), ((x36, ()), (x37, x38, x39, x40, x41, ()), (x42, x43, x44, x45, x46, ()), ())) => (bif decide (x40.length ≤ 4294967296) then some (Out.ret ((Tre.mk (x37, x38, x39, x40, ()) x36, ()), ())) else none)
theorem runtTwin (a0 : Nd) : Io.run tt hdtTwin dr lptTwin iotTwin Go.Proofs.Tryz.f51 ((a0, ()), ()) = bodytTwin a0 := by kernel_rfl
theorem oktTwinS (rtTwin : HcOk prog 51 (ioHd iotTwin (FtTwinN spFuel))) : HcOk prog 51 (ioHd iotTwin (FtTwinN (spFuel + 1))) := by
  refine fn_sound (n := 400) hm (cs := cstTwin) (.cons okCopy (.cons rtTwin .nil)) (lp := lptTwin) (fn := Go.Proofs.Tryz.f51) (by kernel_rfl) (by kernel_rfl) (by kernel_rfl) iotTwin (.step (h0 := loHd lotTwin_4 FtTwin_4) (by kernel_rfl) (loop_sound (n := 400) hm (cs := cstTwin) (.cons okCopy (.cons rtTwin .nil)) (lp := lptTwin) (fn := Go.Proofs.Tryz.f51) (.done (by kernel_rfl)) lotTwin_4 FtTwin_4 ?_) (.done (by kernel_rfl))) (FtTwinN (spFuel + 1)) ?_
  · rintro ⟨⟨(o : List Nd), (i : Int), ⟨⟩⟩, ⟨⟨(a : Int), (b : Int), (z : Bool), (x : List Int), (l : List Nd), ⟨⟩⟩, ⟨(c : Int), (d : Int), (z' : Bool), (y' : List Int), (m : List Nd), ⟨⟩⟩, ⟨⟩⟩⟩ y hw hy
    obtain ⟨hg, hy⟩ := Tr.guard hy
    simp only [Bool.and_eq_true, decide_eq_true_eq] at hg
    obtain ⟨h1, h2, h3, h4⟩ := hg
    have h1 : o = [] := List.eq_nil_of_length_eq_zero h1
    have h2 : i = 0 := h2
    have h3 : spWts l < spFuel := h3
    have h4 : spWts l ≤ 4294967296 := h4
    subst h1
    subst h2
    refine ⟨l.length + 1, (looptTwin h3 h4 a b z x c d z' y' m (l.length + 1) 0 (by omega) (by omega)).trans ?_⟩
    rw [← hy]
    rfl
  · rintro ⟨⟨(a : Nd), ⟨⟩⟩, ⟨⟩⟩ out hw ho
    obtain ⟨hg, ho⟩ := Tr.guard ho
    simp only [Bool.and_eq_true, decide_eq_true_eq] at hg
    obtain ⟨hk, hb⟩ := hg
    have hk : spWt a < spFuel + 1 := hk
    have hb : spWt a ≤ 4294967296 := hb
    cases ho
    refine (runtTwin a).trans ?_
    unfold bodytTwin
    show _ = some (Out.ret ((a, ()), ()))
    obtain ⟨⟨a1, a2, a3, a4, ⟨⟩⟩, a5⟩ := a
    rw [spWt_eq] at hk hb
    have hk : 1 + a4.length + spWts a5 < spFuel + 1 := hk
    have hb : 1 + a4.length + spWts a5 ≤ 4294967296 := hb
    have c1 : (decide (([] : List Nd).length = 0) && (decide ((0 : Int) = 0) && (decide (spWts a5 < spFuel) && decide (spWts a5 ≤ 4294967296)))) = true := by simp; omega
    have e1 : FtTwin_4 ((([] : List Nd), (0, ())), ((a1, (a2, (a3, (a4, (a5, ()))))), ((0, (0, (false, (([] : List Int), (([] : List Nd), ()))))), ()))) = .ite true (.ret (.ret ((), ((a5, ()), ((a1, (a2, (a3, (a4, (a5, ()))))), ((0, (0, (false, (([] : List Int), (([] : List Nd), ()))))), ())))))) .no := congrArg (fun c => Tr.ite c _ _) c1
    rw [e1]
    exact bif_true (decide_eq_true (show a4.length ≤ 4294967296 by omega)) _ _
end
theorem oktTwinN (n : Nat) : HcOk prog 51 (ioHd iotTwin (FtTwinN n)) := by
  induction n with
  | zero => exact HcOk.none (fn := Go.Proofs.Tryz.f51) (by kernel_rfl) (by kernel_rfl) (by kernel_rfl) _ _ fun d out h => by cases h
  | succ n ih =>
    have := @oktTwinS ⟨⟨n⟩⟩ (by rw [FuT.val]; exact ih)
    rw [FuT.val] at this
    exact this
theorem oktTwin : HcOk prog 51 (ioHd iotTwin FtTwin) := by
  refine HcOk.lim oktTwinN fun d => ⟨spWt d.1.1 + 1, fun out h => ?_⟩
  obtain ⟨hg, h⟩ := Tr.guard h
  refine (bif_true ?_ _ _).trans h
  simp only [Bool.and_eq_true, decide_eq_true_eq]
  exact ⟨Nat.lt_succ_self _, of_decide_eq_true hg⟩
end
end Go.Proofs.YtjpeefegeobgfaaGreat.Sym
namespace Go.Proofs.YtjpeefegeobgfaaGreat.Sym
open Go
set_option linter.unusedSimpArgs false
set_option linter.unusedVariables false
noncomputable section
mutual
def spVal (f : Fd) (v : Int) : Nd → List Int × Int
  | .mk a ks =>
    if spShN f.lab.2.1 (.mk a ks) = false then ([], 101)
    else if f.lab.2.1 ≤ 4 then (if spFits a.2.1 (spWid f.lab.2.1) = true then (spBE a.2.1 (spWid f.lab.2.1).toNat, 0) else ([], 102))
    else if f.lab.2.1 = 9 then (if 16 < ks.length then ([], 9) else if (spVItems (f.kids.headD f) v ks).2 ≠ 0 then ([], (spVItems (f.kids.headD f) v ks).2) else (spBE ks.length 4 ++ (spVItems (f.kids.headD f) v ks).1, 0))
    else if f.lab.2.1 = 10 then spVParts f.kids v (.mk a ks)
    else if a.2.2.1 = true then (if a.2.2.2.1.length = 0 then (spBE (-1) (spWid f.lab.2.1).toNat, 0) else ([], 70))
    else if f.lab.2.1 ≤ 6 ∧ (spUtf a.2.2.2.1).2 = false then ([], 6)
    else if f.lab.2.1 ≤ 6 ∧ 255 < a.2.2.2.1.length then ([], 4)
    else (spBE a.2.2.2.1.length (spWid f.lab.2.1).toNat ++ a.2.2.2.1, 0)
termination_by n => (SizeOf.sizeOf n, 1)
def spVParts (fs : List Fd) (v : Int) : Nd → List Int × Int
  | .mk a ks => if ks.length ≠ (spHere fs v).length then ([], 101) else spVZip v (spHere fs v) ks
termination_by n => (SizeOf.sizeOf n, 0)
def spVItems (f : Fd) (v : Int) : List Nd → List Int × Int
  | [] => ([], 0)
  | k :: ks => if (spVal f v k).2 ≠ 0 then ([], (spVal f v k).2) else if (spVItems f v ks).2 ≠ 0 then ([], (spVItems f v ks).2) else ((spVal f v k).1 ++ (spVItems f v ks).1, 0)
termination_by l => (SizeOf.sizeOf l, 0)
def spVZip (v : Int) : List Fd → List Nd → List Int × Int
  | f :: fs, k :: ks => if (spVal f v k).2 ≠ 0 then ([], (spVal f v k).2) else if (spVZip v fs ks).2 ≠ 0 then ([], (spVZip v fs ks).2) else ((spVal f v k).1 ++ (spVZip v fs ks).1, 0)
  | _, _ => ([], 0)
termination_by fs l => (SizeOf.sizeOf l, 0)
end
mutual
def Tre.arr : Fd → Bool
  | .mk a ks => ((decide (a.2.1 ≠ 9) || decide (ks.length ≠ 0)) && decide (ks.length ≤ 16)) && Tre.arrs ks
def Tre.arrs : List Fd → Bool
  | [] => true
  | k :: ks => k.arr && Tre.arrs ks
end
@[irreducible] noncomputable def spArr (f : Fd) : Bool := f.arr
@[irreducible] noncomputable def spArrs (f : List Fd) : Bool := Tre.arrs f
theorem spArr_eq (f : Fd) : spArr f = (((decide (f.lab.2.1 ≠ 9) || decide (f.kids.length ≠ 0)) && decide (f.kids.length ≤ 16)) && spArrs f.kids) := by
  cases f; unfold spArr spArrs; rfl
theorem spArrs_mem {k : Fd} : ∀ {l : List Fd}, spArrs l = true → k ∈ l → spArr k = true
  | [], _, h => by cases h
  | x :: l, h, hk => by
    unfold spArrs at h
    simp only [Tre.arrs, Bool.and_eq_true] at h
    rcases List.mem_cons.1 hk with rfl | hk
    · unfold spArr; exact h.1
    · exact spArrs_mem (l := l) (by unfold spArrs; exact h.2) hk
theorem spArrs_here {l : List Fd} {v : Int} (h : spArrs l = true) : spArrs (spHere l v) = true := by
  have key : ∀ l : List Fd, (∀ k ∈ l, spArr k = true) → spArrs l = true := by
    intro l
    induction l with
    | nil => intro _; unfold spArrs; rfl
    | cons x l ih =>
      intro h
      have h1 := ih fun k hk => h k (List.mem_cons_of_mem _ hk)
      have h2 := h x (by simp)
      unfold spArrs spArr at *
      simp only [Tre.arrs, h1, h2, Bool.and_self]
  refine key _ fun k hk => spArrs_mem h (List.mem_filter.1 hk).1
theorem spWts_cons (k : Nd) (ks : List Nd) : spWts (k :: ks) = spWt k + spWts ks := by unfold spWts spWt; rfl
theorem spWid_le (k : Int) : 1 ≤ spWid k ∧ spWid k ≤ 8 := by unfold spWid; split; omega; split; omega; split <;> omega
theorem spVItems_len {f : Fd} {v : Int} : ∀ {ks : List Nd}, (∀ k ∈ ks, (spVal f v k).1.length ≤ 8 * spWt k) → (spVItems f v ks).1.length ≤ 8 * spWts ks
  | [], _ => by rw [spVItems]; simp
  | k :: ks, h => by
    have h1 := h k (by simp)
    have h2 := spVItems_len (f := f) (v := v) (ks := ks) fun k hk => h k (List.mem_cons_of_mem _ hk)
    rw [spVItems, spWts_cons]
    split
    · simp
    · split
      · simp
      · rw [List.length_append]; omega
theorem spVZip_len {v : Int} : ∀ {fs : List Fd} {ks : List Nd}, (∀ f, ∀ k ∈ ks, (spVal f v k).1.length ≤ 8 * spWt k) → (spVZip v fs ks).1.length ≤ 8 * spWts ks
  | f :: fs, k :: ks, h => by
    have h1 := h f k (by simp)
    have h2 := spVZip_len (v := v) (fs := fs) (ks := ks) fun f k hk => h f k (List.mem_cons_of_mem _ hk)
    rw [spVZip, spWts_cons]
    split
    · simp
    · split
      · simp
      · rw [List.length_append]; omega
  | [], ks, h => by rw [spVZip]; simp; simp
  | _ :: _, [], h => by rw [spVZip]; simp; simp
theorem spVZip_nil {v : Int} : ∀ {fs : List Fd} {ks : List Nd}, (spVZip v fs ks).2 ≠ 0 → (spVZip v fs ks).1 = []
  | [], ks, h => by rw [spVZip]; simp
  | _ :: _, [], h => by rw [spVZip]; simp
  | f :: fs, k :: ks, h => by
    rw [spVZip] at h ⊢
    split
    · rfl
    · rename_i h1
      rw [if_neg h1] at h
      split
      · rfl
      · rename_i h2
        rw [if_neg h2] at h
        exact absurd rfl h
theorem spVal_lenN (v : Int) : ∀ (N : Nat), (∀ f n, spWt n ≤ N → (spVal f v n).1.length ≤ 8 * spWt n) ∧ (∀ fs n, spWt n ≤ N → (spVParts fs v n).1.length + 8 ≤ 8 * spWt n) := by
  intro N
  induction N with
  | zero => exact ⟨fun f n h => by have := spWt_pos n; omega, fun f n h => by have := spWt_pos n; omega⟩
  | succ N ih =>
    have hp : ∀ fs n, spWt n ≤ N + 1 → (spVParts fs v n).1.length + 8 ≤ 8 * spWt n := by
      rintro fs ⟨a, ks⟩ h
      rw [spWt_eq] at h ⊢
      rw [spVParts]
      simp only at h ⊢
      split
      · simp; omega
      · have := spVZip_len (v := v) (fs := spHere fs v) (ks := ks) fun f k hk => ih.1 f k (by have := spWt_mem hk; omega)
        omega
    refine ⟨?_, hp⟩
    rintro f ⟨a, ks⟩ h
    have hpp := hp f.kids (.mk a ks) h
    have hw := spWid_le f.lab.2.1
    rw [spWt_eq] at h hpp ⊢
    rw [spVal]
    simp only at h hpp ⊢
    have hi := spVItems_len (f := f.kids.headD f) (v := v) (ks := ks) fun k hk => ih.1 _ k (by have := spWt_mem hk; omega)
    split
    · simp
    split
    · split
      · simp [spBE_len]; omega
      · simp
    split
    · split
      · simp
      · split
        · simp
        · rw [List.length_append, spBE_len]; omega
    split
    · omega
    split
    · split
      · simp [spBE_len]; omega
      · simp
    split
    · simp
    split
    · simp
    · rw [List.length_append, spBE_len]; omega
theorem spVal_len (f : Fd) (v : Int) (n : Nd) : (spVal f v n).1.length ≤ 8 * spWt n := (spVal_lenN v _).1 f n (Nat.le_refl _)
abbrev iovValue : Io := ⟨[dFld, dI, dNode], [], [], [dL, dI], none⟩
def FvValueN (n : Nat) (d : iovValue.In) : Tr iovValue.Res := .ite (decide (2 * spWt d.1.2.2.1 + 1 ≤ n) && (spArr d.1.1 && decide (8 * spWt d.1.2.2.1 ≤ 4294967296))) (.ret (.ret (((spVal d.1.1 d.1.2.1 d.1.2.2.1).1, ((spVal d.1.1 d.1.2.1 d.1.2.2.1).2, ())), ()))) .no
abbrev iovParts : Io := ⟨[dFlds, dI, dNode], [], [], [dL, dI], none⟩
def FvPartsN (n : Nat) (d : iovParts.In) : Tr iovParts.Res := .ite (decide (2 * spWt d.1.2.2.1 ≤ n) && (spArrs d.1.1 && (decide (8 * spWt d.1.2.2.1 ≤ 4294967296) && decide (d.1.1.length ≤ 4294967296)))) (.ret (.ret (((spVParts d.1.1 d.1.2.1 d.1.2.2.1).1, ((spVParts d.1.1 d.1.2.1 d.1.2.2.1).2, ())), ()))) .no
def FvParts (d : iovParts.In) : Tr iovParts.Res := .ite (spArrs d.1.1 && (decide (8 * spWt d.1.2.2.1 ≤ 4294967296) && decide (d.1.1.length ≤ 4294967296))) (.ret (.ret (((spVParts d.1.1 d.1.2.1 d.1.2.2.1).1, ((spVParts d.1.1 d.1.2.1 d.1.2.2.1).2, ())), ()))) .no
section
variable [Inhabited FuT]
abbrev csvValue : List (Nat × Hc) := [(173, ioHd iotShape FtShape), (197, ioHd iotWidth FtWidth), (198, ioHd ionFits FnFits), (199, ioHd ionDigits FnDigits), (188, ioHd iovValue (FvValueN spFuel)), (174, ioHd iovParts (FvPartsN spFuel)), (200, ioHd iorUtf FrUtf), (189, ioHd ioCat FCat)]
def hdvValue : Hd := hdT csvValue
abbrev lovValue_14 : Lo := ⟨⟨[.any, .one (.hol (.int IntKind.i64)), .any, .one (.ptr 3 0), .any, .one (.ptr 5 0), .any, .any, .any, .one (.onl 5 (Ty.int IntKind.u8) 19), .one (.hol (.int IntKind.i64)), .any, .any, .any, .any, .any, .any, .any, .any, .any, .any, .any, .any, .any, .any, .any, .any, .any, .any, .any, .any, .any, .any, .any, .any, .any, .any, .any, .any, .any, .any, .any, .any, .any, .any, .any, .any, .any, .any, .any, .any, .any, .any, .any, .any, .any, .any, .any, .any, .any, .any, .any, .any, .any, .any, .any, .any, .any, .any, .any, .any, .any, .any, .any, .any, .any, .any, .any, .any, .any, .any, .any, .any, .any, .any, .any, .any, .any, .any, .any, .any, .any, .any, .any, .any, .any, .any, .any, .any, .any, .any, .any, .any, .any, .any, .any, .any, .any, .any, .any, .any, .any, .any, .any, .any, .any, .any, .any], [none, none, none, some [.hol .str, .hol (.int IntKind.i64), .hol (.int IntKind.i64), .hol (.int IntKind.i64), .hol (.sl 213 tFld)], none, some [.hol (.int IntKind.i64), .hol (.int IntKind.i64), .hol .bool, .hol (.sl 5 (Ty.int IntKind.u8)), .hol (.sl 98 (((Ty.int IntKind.i64).prod ((Ty.int IntKind.i64).prod (Ty.bool.prod ((Ty.sl 5 (Ty.int IntKind.u8)).prod Ty.unit)))).tree 98))]]⟩, [(.ret, ⟨[.any, .any, .any, .any, .any, .any, .one (.onl 5 (Ty.int IntKind.u8) 13), .one (.hol (.int IntKind.i64)), .any, .any, .any, .any, .any, .any, .any, .any, .any, .any, .any, .any, .any, .any, .any, .any, .any, .any, .any, .any, .any, .any, .any, .any, .any, .any, .any, .any, .any, .any, .any, .any, .any, .any, .any, .any, .any, .any, .any, .any, .any, .any, .any, .any, .any, .any, .any, .any, .any, .any, .any, .any, .any, .any, .any, .any, .any, .any, .any, .any, .any, .any, .any, .any, .any, .any, .any, .any, .any, .any, .any, .any, .any, .any, .any, .any, .any, .any, .any, .any, .any, .any, .any, .any, .any, .any, .any, .any, .any, .any, .any, .any, .any, .any, .any, .any, .any, .any, .any, .any, .any, .any, .any, .any, .any, .any, .any, .any, .any, .any], []⟩), (.exit 0, ⟨[.any, .any, .any, .any, .any, .any, .any, .any, .any, .one (.onl 5 (Ty.int IntKind.u8) 19), .any, .any, .any, .any, .any, .any, .any, .any, .any, .any, .any, .any, .any, .any, .any, .any, .any, .any, .any, .any, .any, .any, .any, .any, .any, .any, .any, .any, .any, .any, .any, .any, .any, .any, .any, .any, .any, .any, .any, .any, .any, .any, .any, .any, .any, .any, .any, .any, .any, .any, .any, .any, .any, .any, .any, .any, .any, .any, .any, .any, .any, .any, .any, .any, .any, .any, .any, .any, .any, .any, .any, .any, .any, .any, .any, .any, .any, .any, .any, .any, .any, .any, .any, .any, .any, .any, .any, .any, .any, .any, .any, .any, .any, .any, .any, .any, .any, .any, .any, .any, .any, .any, .any, .any, .any, .any, .any, .any], []⟩)]⟩
-- FvValue_14 : lovValue_14.st.den → Tr (DenX lovValue_14.xs) | ((h3, (h4, (h5, ()))), ((h6, (h7, (h8, (h9, (h10, ()))))), ((h11, (h12, (h13, (h14, (h15, ()))))), ())))
def FvValue_14 (d : lovValue_14.st.den) : Tr (DenX lovValue_14.xs) :=
  .ite (decide (d.1.2.2.1 = 0) && (decide (d.1.2.1.length = 4) && ((decide (d.2.1.2.2.2.2.1.length ≠ 0) && spArrs d.2.1.2.2.2.2.1) && (decide (2 * spWts d.2.2.1.2.2.2.2.1 + 1 ≤ spFuel) && decide (8 + 8 * spWts d.2.2.1.2.2.2.2.1 ≤ 4294967296)))))
    (.ite (decide ((spVItems (d.2.1.2.2.2.2.1.headD (.mk ([], (0, (0, (0, ())))) [])) d.1.1 d.2.2.1.2.2.2.2.1).2 = 0))
      (.ret (.pan (.ret ((), ((d.1.2.1 ++ (spVItems (d.2.1.2.2.2.2.1.headD (.mk ([], (0, (0, (0, ())))) [])) d.1.1 d.2.2.1.2.2.2.2.1).1, ()), ())))))
      (.ret (.ret ((), (([], ((spVItems (d.2.1.2.2.2.2.1.headD (.mk ([], (0, (0, (0, ())))) [])) d.1.1 d.2.2.1.2.2.2.2.1).2, ())), ()))))) .no
def lpvValue : Lp := lpT [(14, loHd lovValue_14 FvValue_14)]
def stepvValue_14 {R : Type} (h3 : Int) (h4 : List Int) (h5 : Int) (h6 : List Int) (h7 : Int) (h8 : Int) (h9 : Int) (h10 : List (Fd)) (h11 : Int) (h12 : Int) (h13 : Bool) (h14 : List Int) (h15 : List (Nd)) (next : Int → List Int → Int → List Int → Int → Int → Int → List (Fd) → Int → Int → Bool → List Int → List (Nd) → Option R) (out : DenX lovValue_14.xs → Option R) : Option R := bif decide (h5 < (↑h15.length : Int)) then bif decide (0 ≤ 0) && decide (0 < (↑h10.length : Int)) then bif decide (0 ≤ h5) && decide (h5 < (↑h15.length : Int)) then bif decide (2 * spWt (Tre.mk (h15.getD h5.toNat (Tre.mk (0, 0, false, [], ()) [])).1 (h15.getD h5.toNat (Tre.mk (0, 0, false, [], ()) [])).2) + 1 ≤ spFuel) && (spArr (Tre.mk (h10.getD (Int.toNat 0) (Tre.mk ([], 0, 0, 0, ()) [])).1 (h10.getD (Int.toNat 0) (Tre.mk ([], 0, 0, 0, ()) [])).2) && decide (8 * spWt (Tre.mk (h15.getD h5.toNat (Tre.mk (0, 0, false, [], ()) [])).1 (h15.getD h5.toNat (Tre.mk (0, 0, false, [], ()) [])).2) ≤ 4294967296)) then bif (spVal (Tre.mk (h10.getD (Int.toNat 0) (Tre.mk ([], 0, 0, 0, ()) [])).1 (h10.getD (Int.toNat 0) (Tre.mk ([], 0, 0, 0, ()) [])).2) h3 (Tre.mk (h15.getD h5.toNat (Tre.mk (0, 0, false, [], ()) [])).1 (h15.getD h5.toNat (Tre.mk (0, 0, false, [], ()) [])).2)).snd != 0 then out (.ret ((), (([], ((spVal (Tre.mk (h10.getD (Int.toNat 0) (Tre.mk ([], 0, 0, 0, ()) [])).1 (h10.getD (Int.toNat 0) (Tre.mk ([], 0, 0, 0, ()) [])).2) h3 (Tre.mk (h15.getD h5.toNat (Tre.mk (0, 0, false, [], ()) [])).1 (h15.getD h5.toNat (Tre.mk (0, 0, false, [], ()) [])).2)).snd, ())), ()))) else bif decide (h4.length + (spVal (Tre.mk (h10.getD (Int.toNat 0) (Tre.mk ([], 0, 0, 0, ()) [])).1 (h10.getD (Int.toNat 0) (Tre.mk ([], 0, 0, 0, ()) [])).2) h3 (Tre.mk (h15.getD h5.toNat (Tre.mk (0, 0, false, [], ()) [])).1 (h15.getD h5.toNat (Tre.mk (0, 0, false, [], ()) [])).2)).fst.length ≤ 4294967296) then next (h3) (h4 ++ (spVal (Tre.mk (h10.getD (Int.toNat 0) (Tre.mk ([], 0, 0, 0, ()) [])).1 (h10.getD (Int.toNat 0) (Tre.mk ([], 0, 0, 0, ()) [])).2) h3 (Tre.mk (h15.getD h5.toNat (Tre.mk (0, 0, false, [], ()) [])).1 (h15.getD h5.toNat (Tre.mk (0, 0, false, [], ()) [])).2)).fst) (IntKind.i64.wrap (h5 + 1)) (h6) (h7) (h8) (h9) (h10) (h11) (h12) (h13) (h14) (h15) else none else none else none else none else out (.pan (.ret ((), ((h4, ()), ()))))
def itvValue_14 (n : Nat) (h3 : Int) (h4 : List Int) (h5 : Int) (h6 : List Int) (h7 : Int) (h8 : Int) (h9 : Int) (h10 : List (Fd)) (h11 : Int) (h12 : Int) (h13 : Bool) (h14 : List Int) (h15 : List (Nd)) : Option (DenX lovValue_14.xs) := lpN tt hdvValue dr lpvValue 0 Go.Proofs.Tryz.f188 (topL Go.Proofs.Tryz.f188 0) n (lovValue_14.st.mk' ((h3, (h4, (h5, ()))), ((h6, (h7, (h8, (h9, (h10, ()))))), ((h11, (h12, (h13, (h14, (h15, ()))))), ())))) (decX lovValue_14.xs)
theorem slvValue_14 (n : Nat) (h3 : Int) (h4 : List Int) (h5 : Int) (h6 : List Int) (h7 : Int) (h8 : Int) (h9 : Int) (h10 : List (Fd)) (h11 : Int) (h12 : Int) (h13 : Bool) (h14 : List Int) (h15 : List (Nd)) : itvValue_14 (n + 1) h3 h4 h5 h6 h7 h8 h9 h10 h11 h12 h13 h14 h15 = stepvValue_14 h3 h4 h5 h6 h7 h8 h9 h10 h11 h12 h13 h14 h15 (itvValue_14 n) some := by kernel_rfl
theorem loopvValue {f0 : Fd} {fs : List Fd} {ks : List Nd} {v : Int} (hl : ks.length ≤ maxLen) (ha : spArr f0 = true) (hf : 2 * spWts ks + 1 ≤ spFuel) (hb : 8 * spWts ks ≤ 4294967296) (nm : List Int) (k' lo hi a b : Int) (z : Bool) (x : List Int) : ∀ (k j : Nat) (o : List Int), ks.length < j + k → j ≤ ks.length → o.length + 8 * spWts (ks.drop j) ≤ 4294967296 →
    itvValue_14 k v o j nm k' lo hi (f0 :: fs) a b z x ks = if (spVItems f0 v (ks.drop j)).2 = 0 then some (.pan (.ret ((), ((o ++ (spVItems f0 v (ks.drop j)).1, ()), ())))) else some (.ret ((), (([], ((spVItems f0 v (ks.drop j)).2, ())), ()))) := by
  intro k
  induction k with
  | zero => intro j o h1 h2; omega
  | succ k ih =>
    intro j o h1 h2 h3
    rw [slvValue_14]
    unfold stepvValue_14
    by_cases hj : j < ks.length
    · refine (bif_true (decide_eq_true (show (j : Int) < (ks.length : Int) by omega)) _ _).trans ?_
      refine (bif_true (by simp) _ _).trans ?_
      refine (bif_true (by simp; omega) _ _).trans ?_
      have hmem := spWt_mem (List.getElem_mem hj)
      have hd : ks.drop j = ks[j] :: ks.drop (j + 1) := List.drop_eq_getElem_cons hj
      have hvl := spVal_len f0 v ks[j]
      have ih' := ih (j + 1) (o ++ (spVal f0 v ks[j]).1) (by omega) (by omega)
      rw [hd, spWts_cons] at h3
      rw [hd, spVItems]
      rw [wrap_succ hj hl]
      simp only [Int.toNat_natCast, getD_lt hj]
      generalize ks[j] = u at hmem hvl ih' h3 ⊢
      obtain ⟨ul, uk⟩ := u
      obtain ⟨fl, fk⟩ := f0
      refine (bif_true (show (decide (2 * spWt (Tre.mk ul uk) + 1 ≤ spFuel) && (spArr (Tre.mk fl fk) && decide (8 * spWt (Tre.mk ul uk) ≤ 4294967296))) = true by rw [ha]; simp; omega) _ _).trans ?_
      by_cases he : (spVal (Tre.mk fl fk) v (Tre.mk ul uk)).2 = 0
      · refine (bif_false (show ((spVal (Tre.mk fl fk) v (Tre.mk ul uk)).2 != 0) = false by rw [he]; rfl) _ _).trans ?_
        refine (bif_true (decide_eq_true (show o.length + (spVal (Tre.mk fl fk) v (Tre.mk ul uk)).1.length ≤ 4294967296 by omega)) _ _).trans ?_
        refine (ih' (by rw [List.length_append]; omega)).trans ?_
        by_cases h2 : (spVItems (Tre.mk fl fk) v (ks.drop (j + 1))).2 = 0
        · simp [he, h2]
        · simp [he, h2]
      · refine (bif_true (show ((spVal (Tre.mk fl fk) v (Tre.mk ul uk)).2 != 0) = true by simpa using he) _ _).trans ?_
        simp [he]
    · refine (bif_false (decide_eq_false (show ¬ (j : Int) < (ks.length : Int) by omega)) _ _).trans ?_
      rw [List.drop_of_length_le (by omega), spVItems, if_pos rfl, List.append_nil]
def bodyvValue (a0 : Fd) (a1 : Int) (a2 : Nd) : Option iovValue.Res := bif !spShN a0.1.snd.fst (Tre.mk a2.1 a2.2) then some (Out.ret (([], 101, ()), ())) else bif decide (a0.1.snd.fst ≤ 4) then bif decide (1 ≤ spWid a0.1.snd.fst) then bif !spFits a2.1.snd.fst (spWid a0.1.snd.fst) then some (Out.ret (([], 102, ()), ())) else bif decide (0 ≤ spWid a0.1.snd.fst) && decide (spWid a0.1.snd.fst ≤ 8) then some (Out.ret ((spBE a2.1.snd.fst (spWid a0.1.snd.fst).toNat, 0, ()), ())) else none else none else bif a0.1.snd.fst == 9 then bif decide (16 < (↑a2.2.length : Int)) then some (Out.ret (([], 9, ()), ())) else (FvValue_14 ((a1, (spBE (↑a2.2.length : Int) (Int.toNat 4), (0, ()))), ((a0.1.fst, (a0.1.snd.fst, (a0.1.snd.snd.fst, (a0.1.snd.snd.snd.fst, (a0.2, ()))))), ((a2.1.fst, (a2.1.snd.fst, (a2.1.snd.snd.fst, (a2.1.snd.snd.snd.fst, (a2.2, ()))))), ())))).run fun y => match y with | .ret ((), ((x32, x33, ()), ())) => (some (Out.ret ((x32, x33, ()), ()))) | .pan (.ret ((), ((x34, ()), ()))) => (some (Out.ret ((x34, 0, ()), ()))) else bif a0.1.snd.fst == 10 then bif decide (2 * spWt (Tre.mk a2.1 a2.2) ≤ spFuel) && (spArrs a0.2 && (decide (8 * spWt (Tre.mk a2.1 a2.2) ≤ 4294967296) && decide (a0.2.length ≤ 4294967296))) then some (Out.ret (((spVParts a0.2 a1 (Tre.mk a2.1 a2.2)).fst, (spVParts a0.2 a1 (Tre.mk a2.1 a2.2)).snd, ()), ())) else none else bif a2.1.snd.snd.fst then bif decide (0 < (↑(List.length a2.1.snd.snd.snd.fst) : Int)) then some (Out.ret (([], 70, ()), ())) else bif a2.1.snd.snd.fst then bif decide (0 ≤ spWid a0.1.snd.fst) && decide (spWid a0.1.snd.fst ≤ 8) then some (Out.ret ((spBE (-1) (spWid a0.1.snd.fst).toNat, 0, ()), ())) else none else bif decide (a0.1.snd.fst ≤ 6) then bif !(spUtf a2.1.snd.snd.snd.fst).snd then some (Out.ret (([], 6, ()), ())) else bif decide (255 < (↑(List.length a2.1.snd.snd.snd.fst) : Int)) then some (Out.ret (([], 4, ()), ())) else bif decide (0 ≤ spWid a0.1.snd.fst) && decide (spWid a0.1.snd.fst ≤ 8) then bif decide ((spBE (↑(List.length a2.1.snd.snd.snd.fst) : Int) (spWid a0.1.snd.fst).toNat).length + List.length a2.1.snd.snd.snd.fst ≤ 4294967296) then some (Out.ret ((spBE (↑(List.length a2.1.snd.snd.snd.fst) : Int) (spWid a0.1.snd.fst).toNat ++ a2.1.snd.snd.snd.fst, 0, ()), ())) else none else none else bif decide (0 ≤ spWid a0.1.snd.fst) && decide (spWid a0.1.snd.fst ≤ 8) then bif decide ((spBE (↑(List.length a2.1.snd.snd.snd.fst) : Int) (spWid a0.1.snd.fst).toNat).length + List.length a2.1.snd.snd.snd.fst ≤ 4294967296) then some (Out.ret ((spBE (↑(List.length a2.1.snd.snd.snd.fst) : Int) (spWid a0.1.snd.fst).toNat ++ a2.1.snd.snd.snd.fst, 0, ()), ())) else none else none else bif a2.1.snd.snd.fst then bif decide (0 ≤ spWid a0.1.snd.fst) && decide (spWid a0.1.snd.fst ≤ 8) then some (Out.ret ((spBE (-1) (spWid a0.1.snd.fst).toNat, 0, ()), ())) else none else bif decide (a0.1.snd.fst ≤ 6) then bif !(spUtf a2.1.snd.snd.snd.fst).snd then some (Out.ret (([], 6, ()), ())) else bif decide (255 < (↑(List.length a2.1.snd.snd.snd.fst) : Int)) then some (Out.ret (([], 4, ()), ())) else bif decide (0 ≤ spWid a0.1.snd.fst) && decide (spWid a0.1.snd.fst ≤ 8) then bif decide ((spBE (↑(List.length a2.1.snd.snd.snd.fst) : Int) (spWid a0.1.snd.fst).toNat).length + List.length a2.1.snd.snd.snd.fst ≤ 4294967296) then some (Out.ret ((spBE (↑(List.length a2.1.snd.snd.snd.fst) : Int) (spWid a0.1.snd.fst).toNat ++ a2.1.snd.snd.snd.fst, 0, ()), ())) else none else none else bif decide (0 ≤ spWid a0.1.snd.fst) && decide (spWid a0.1.snd.fst ≤ 8) then bif decide ((spBE (↑(List.length a2.1.snd.snd.snd.fst) : Int) (spWid a0.1.snd.fst).toNat).length + List.length a2.1.snd.snd.snd.fst ≤ 4294967296) then some (Out.ret ((spBE (↑(List.length a2.1.snd.snd.snd.fst) : Int) (spWid a0.1.snd.fst).toNat ++ a2.1.snd.snd.snd.fst, 0, ()), ())) else none else none
theorem runvValue (a0 : Fd) (a1 : Int) (a2 : Nd) : Io.run tt hdvValue dr lpvValue iovValue Go.Proofs.Tryz.f188 ((a0, a1, a2, ()), ()) = bodyvValue a0 a1 a2 := by kernel_rfl
theorem okvValueS (rvValue : HcOk prog 188 (ioHd iovValue (FvValueN spFuel))) (rvParts : HcOk prog 174 (ioHd iovParts (FvPartsN spFuel))) : HcOk prog 188 (ioHd iovValue (FvValueN (spFuel + 1))) := by
  refine fn_sound (n := 400) hm (cs := csvValue) (.cons oktShape (.cons oktWidth (.cons oknFits (.cons oknDigits (.cons rvValue (.cons rvParts (.cons okrUtf (.cons okCat .nil)))))))) (lp := lpvValue) (fn := Go.Proofs.Tryz.f188) (by kernel_rfl) (by kernel_rfl) (by kernel_rfl) iovValue (.step (h0 := loHd lovValue_14 FvValue_14) (by kernel_rfl) (loop_sound (n := 400) hm (cs := csvValue) (.cons oktShape (.cons oktWidth (.cons oknFits (.cons oknDigits (.cons rvValue (.cons rvParts (.cons okrUtf (.cons okCat .nil)))))))) (lp := lpvValue) (fn := Go.Proofs.Tryz.f188) (.done (by kernel_rfl)) lovValue_14 FvValue_14 ?_) (.done (by kernel_rfl))) (FvValueN (spFuel + 1)) ?_
  · rintro ⟨⟨(v : Int), (o : List Int), (i : Int), ⟨⟩⟩, ⟨⟨(nm : List Int), (k' : Int), (lo : Int), (hi : Int), (fs : List Fd), ⟨⟩⟩, ⟨(a : Int), (b : Int), (z : Bool), (x : List Int), (ks : List Nd), ⟨⟩⟩, ⟨⟩⟩⟩ y hw hy
    obtain ⟨hg, hy⟩ := Tr.guard hy
    simp only [Bool.and_eq_true, decide_eq_true_eq] at hg
    obtain ⟨h1, h2, ⟨h3, h4⟩, h5, h6⟩ := hg
    have h1 : i = 0 := h1
    have h2 : o.length = 4 := h2
    have h3 : fs.length ≠ 0 := h3
    have h4 : spArrs fs = true := h4
    have h5 : 2 * spWts ks + 1 ≤ spFuel := h5
    have h6 : 8 + 8 * spWts ks ≤ 4294967296 := h6
    subst h1
    obtain ⟨f0, fs, rfl⟩ : ∃ f0 fs', fs = f0 :: fs' := by cases fs with | nil => exact absurd rfl h3 | cons a b => exact ⟨a, b, rfl⟩
    refine ⟨ks.length + 1, (loopvValue (by have := hw.2.2.1.2.2.2.2.1.1; exact this) (spArrs_mem h4 (by simp)) h5 (by omega) nm k' lo hi a b z x (ks.length + 1) 0 o (by omega) (by omega) (by rw [List.drop_zero]; omega)).trans ?_⟩
    rw [← hy, List.drop_zero]
    by_cases h : (spVItems f0 v ks).2 = 0
    · rw [if_pos h]; exact (bif_true (decide_eq_true h) _ _).symm
    · rw [if_neg h]; exact (bif_false (decide_eq_false h) _ _).symm
  · rintro ⟨⟨(f : Fd), (v : Int), (n : Nd), ⟨⟩⟩, ⟨⟩⟩ out hw ho
    obtain ⟨hg, ho⟩ := Tr.guard ho
    simp only [Bool.and_eq_true, decide_eq_true_eq] at hg
    obtain ⟨hk, ha, hb⟩ := hg
    have hk : 2 * spWt n + 1 ≤ spFuel + 1 := hk
    have ha : spArr f = true := ha
    have hb : 8 * spWt n ≤ 4294967296 := hb
    cases ho
    refine (runvValue f v n).trans ?_
    unfold bodyvValue
    show _ = some (Out.ret (((spVal f v n).1, ((spVal f v n).2, ())), ()))
    obtain ⟨⟨nm, k', lo, hi, ⟨⟩⟩, fs⟩ := f
    obtain ⟨⟨a, b, z, x, ⟨⟩⟩, ks⟩ := n
    have hw8 := spWid_le k'
    have hwf := spWt_eq (Tre.mk (a, (b, (z, (x, ())))) ks)
    have hwf : spWt (Tre.mk (a, (b, (z, (x, ())))) ks) = 1 + x.length + spWts ks := hwf
    have hk : 2 * (1 + x.length + spWts ks) + 1 ≤ spFuel + 1 := by rw [← hwf]; exact hk
    have hb : 8 * (1 + x.length + spWts ks) ≤ 4294967296 := by rw [← hwf]; exact hb
    rw [spArr_eq] at ha
    simp only [Bool.and_eq_true] at ha
    obtain ⟨⟨ha1, ha3⟩, ha2⟩ := ha
    have ha2 : spArrs fs = true := ha2
    have ha3 : fs.length ≤ 16 := of_decide_eq_true ha3
    rw [spVal]
    simp only
    have cW : (decide (0 ≤ spWid k') && decide (spWid k' ≤ 8)) = true := by simp; omega
    have tail : (bif decide (0 ≤ spWid k') && decide (spWid k' ≤ 8) then bif decide ((spBE ((x.length : Nat) : Int) (spWid k').toNat).length + x.length ≤ 4294967296) then (some (Out.ret ((spBE ((x.length : Nat) : Int) (spWid k').toNat ++ x, ((0 : Int), ())), ())) : Option iovValue.Res) else none else none) = some (Out.ret ((spBE ((x.length : Nat) : Int) (spWid k').toNat ++ x, ((0 : Int), ())), ())) := by
      refine (bif_true cW _ _).trans ?_
      exact bif_true (decide_eq_true (by rw [spBE_len]; omega)) _ _
    by_cases h1 : spShN k' (Tre.mk (a, (b, (z, (x, ())))) ks) = false
    · rw [if_pos h1]
      exact bif_true (by rw [show spShN k' (Tre.mk (a, (b, (z, (x, ())))) ks) = false from h1]; rfl) _ _
    rw [if_neg h1]
    refine (bif_false (by simpa using h1) _ _).trans ?_
    by_cases h2 : k' ≤ 4
    · rw [if_pos h2]
      refine (bif_true (by simpa using h2) _ _).trans ?_
      refine (bif_true (decide_eq_true (show 1 ≤ spWid k' by omega)) _ _).trans ?_
      by_cases h3 : spFits b (spWid k') = true
      · rw [if_pos h3]
        refine (bif_false (show (!spFits b (spWid k')) = false by rw [h3]; rfl) _ _).trans ?_
        exact bif_true cW _ _
      · rw [if_neg h3]
        exact bif_true (show (!spFits b (spWid k')) = true by simpa using h3) _ _
    rw [if_neg h2]
    refine (bif_false (by simpa using h2) _ _).trans ?_
    by_cases h3 : k' = 9
    · rw [if_pos h3]
      refine (bif_true (by simpa using h3) _ _).trans ?_
      by_cases h4 : 16 < ks.length
      · rw [if_pos h4]
        exact bif_true (decide_eq_true (show (16 : Int) < (ks.length : Int) by omega)) _ _
      · rw [if_neg h4]
        refine (bif_false (decide_eq_false (show ¬ (16 : Int) < (ks.length : Int) by omega)) _ _).trans ?_
        have h0 : fs.length ≠ 0 := by
          rcases Bool.or_eq_true _ _ ▸ ha1 with h | h
          · exact absurd h3 (of_decide_eq_true h)
          · exact of_decide_eq_true h
        have c1 : (decide ((0 : Int) = 0) && (decide ((spBE ((ks.length : Nat) : Int) (Int.toNat 4)).length = 4) && ((decide (fs.length ≠ 0) && spArrs fs) && (decide (2 * spWts ks + 1 ≤ spFuel) && decide (8 + 8 * spWts ks ≤ 4294967296))))) = true := by
          have h0' : fs ≠ [] := fun e => h0 (by rw [e]; rfl)
          rw [ha2, spBE_len]; simp [h0']; omega
        obtain ⟨f0, fs, rfl⟩ : ∃ f0 fs', fs = f0 :: fs' := by cases fs with | nil => exact absurd rfl h0 | cons a b => exact ⟨a, b, rfl⟩
        refine (bif_true c1 _ _).trans ?_
        show (Tr.ite (decide ((spVItems f0 v ks).2 = 0)) _ _).run _ = some (Out.ret (((if (spVItems f0 v ks).2 ≠ 0 then _ else _ : List Int × Int).1, ((if (spVItems f0 v ks).2 ≠ 0 then _ else _ : List Int × Int).2, ())), ()))
        by_cases h5 : (spVItems f0 v ks).2 = 0
        · rw [if_neg (by simpa using h5)]
          exact bif_true (decide_eq_true h5) _ _
        · rw [if_pos h5]
          exact bif_false (decide_eq_false h5) _ _
    rw [if_neg h3]
    refine (bif_false (by simpa using h3) _ _).trans ?_
    by_cases h4 : k' = 10
    · rw [if_pos h4]
      refine (bif_true (by simpa using h4) _ _).trans ?_
      exact bif_true (show (decide (2 * spWt (Tre.mk (a, (b, (z, (x, ())))) ks) ≤ spFuel) && (spArrs fs && (decide (8 * spWt (Tre.mk (a, (b, (z, (x, ())))) ks) ≤ 4294967296) && decide (fs.length ≤ 4294967296)))) = true by rw [ha2, hwf]; simp; omega) _ _
    rw [if_neg h4]
    refine (bif_false (by simpa using h4) _ _).trans ?_
    have rest : (bif decide (k' ≤ 6) then bif !(spUtf x).2 then (some (Out.ret (([], ((6 : Int), ())), ())) : Option iovValue.Res) else bif decide ((255 : Int) < ((x.length : Nat) : Int)) then some (Out.ret (([], ((4 : Int), ())), ())) else bif decide (0 ≤ spWid k') && decide (spWid k' ≤ 8) then bif decide ((spBE ((x.length : Nat) : Int) (spWid k').toNat).length + x.length ≤ 4294967296) then (some (Out.ret ((spBE ((x.length : Nat) : Int) (spWid k').toNat ++ x, ((0 : Int), ())), ())) : Option iovValue.Res) else none else none
        else bif decide (0 ≤ spWid k') && decide (spWid k' ≤ 8) then bif decide ((spBE ((x.length : Nat) : Int) (spWid k').toNat).length + x.length ≤ 4294967296) then (some (Out.ret ((spBE ((x.length : Nat) : Int) (spWid k').toNat ++ x, ((0 : Int), ())), ())) : Option iovValue.Res) else none else none) =
        some (Out.ret (((if k' ≤ 6 ∧ (spUtf x).2 = false then ([], 6) else if k' ≤ 6 ∧ 255 < x.length then ([], 4) else (spBE ((x.length : Nat) : Int) (spWid k').toNat ++ x, 0) : List Int × Int).1, ((if k' ≤ 6 ∧ (spUtf x).2 = false then ([], 6) else if k' ≤ 6 ∧ 255 < x.length then ([], 4) else (spBE ((x.length : Nat) : Int) (spWid k').toNat ++ x, 0) : List Int × Int).2, ())), ())) := by
      rw [tail]
      by_cases h6 : k' ≤ 6
      · refine (bif_true (decide_eq_true h6) _ _).trans ?_
        by_cases h7 : (spUtf x).2 = false
        · rw [if_pos ⟨h6, h7⟩]
          exact bif_true (by rw [h7]; rfl) _ _
        · rw [if_neg (fun h => h7 h.2)]
          refine (bif_false (by simpa using h7) _ _).trans ?_
          by_cases h8 : 255 < x.length
          · rw [if_pos ⟨h6, h8⟩]
            exact bif_true (decide_eq_true (by omega)) _ _
          · rw [if_neg (fun h => h8 h.2)]
            exact bif_false (decide_eq_false (by omega)) _ _
      · rw [if_neg (fun h => h6 h.1), if_neg (fun h => h6 h.1)]
        exact bif_false (decide_eq_false h6) _ _
    by_cases h5 : z = true
    · subst h5
      rw [if_pos rfl]
      refine (bif_true rfl _ _).trans ?_
      by_cases h6 : x.length = 0
      · rw [if_pos h6]
        refine (bif_false (decide_eq_false (show ¬ (0 : Int) < ((x.length : Nat) : Int) by omega)) _ _).trans ?_
        refine (bif_true rfl _ _).trans ?_
        exact bif_true cW _ _
      · rw [if_neg h6]
        exact bif_true (decide_eq_true (show (0 : Int) < ((x.length : Nat) : Int) by omega)) _ _
    · have h5 : z = false := by simpa using h5
      subst h5
      rw [if_neg (by decide)]
      refine (bif_false rfl _ _).trans ?_
      refine (bif_false rfl _ _).trans ?_
      exact rest
end
section
variable [Inhabited FuT]
abbrev csvParts : List (Nat × Hc) := [(187, ioHd iotHere FtHere), (188, ioHd iovValue (FvValueN spFuel)), (189, ioHd ioCat FCat)]
def hdvParts : Hd := hdT csvParts
abbrev lovParts_7 : Lo := ⟨⟨[.any, .one (.hol (.int IntKind.i64)), .any, .any, .any, .one (.ptr 5 0), .any, .any, .one (.onl 213 tFld 17), .one (.onl 5 (Ty.int IntKind.u8) 19), .one (.hol (.int IntKind.i64)), .any, .any, .any, .any, .any, .any, .any, .any, .any, .any, .any, .any, .any, .any, .any, .any, .any, .any, .any, .any, .any, .any, .any, .any, .any, .any, .any, .any, .any, .any, .any, .any, .any, .any, .any, .any, .any, .any, .any], [none, none, none, none, none, some [.hol (.int IntKind.i64), .hol (.int IntKind.i64), .hol .bool, .hol (.sl 5 (Ty.int IntKind.u8)), .hol (.sl 98 (((Ty.int IntKind.i64).prod ((Ty.int IntKind.i64).prod (Ty.bool.prod ((Ty.sl 5 (Ty.int IntKind.u8)).prod Ty.unit)))).tree 98))]]⟩, [(.ret, ⟨[.any, .any, .any, .any, .any, .any, .one (.onl 5 (Ty.int IntKind.u8) 13), .one (.hol (.int IntKind.i64)), .any, .any, .any, .any, .any, .any, .any, .any, .any, .any, .any, .any, .any, .any, .any, .any, .any, .any, .any, .any, .any, .any, .any, .any, .any, .any, .any, .any, .any, .any, .any, .any, .any, .any, .any, .any, .any, .any, .any, .any, .any, .any], []⟩), (.exit 0, ⟨[.any, .any, .any, .any, .any, .any, .any, .any, .any, .one (.onl 5 (Ty.int IntKind.u8) 19), .any, .any, .any, .any, .any, .any, .any, .any, .any, .any, .any, .any, .any, .any, .any, .any, .any, .any, .any, .any, .any, .any, .any, .any, .any, .any, .any, .any, .any, .any, .any, .any, .any, .any, .any, .any, .any, .any, .any, .any], []⟩)]⟩
-- FvParts_7 : lovParts_7.st.den → Tr (DenX lovParts_7.xs) | ((h3, (h4, (h5, (h6, ())))), ((h7, (h8, (h9, (h10, (h11, ()))))), ()))
def FvParts_7 (d : lovParts_7.st.den) : Tr (DenX lovParts_7.xs) :=
  .ite (decide (d.1.2.2.2.1 = 0) && (decide (d.1.2.2.1.length = 0) && ((decide (d.1.2.1.length = d.2.1.2.2.2.2.1.length) && spArrs d.1.2.1) && (decide (2 * spWts d.2.1.2.2.2.2.1 + 1 ≤ spFuel) && decide (8 + 8 * spWts d.2.1.2.2.2.2.1 ≤ 4294967296)))))
    (.ite (decide ((spVZip d.1.1 d.1.2.1 d.2.1.2.2.2.2.1).2 = 0))
      (.ret (.pan (.ret ((), (((spVZip d.1.1 d.1.2.1 d.2.1.2.2.2.2.1).1, ()), ())))))
      (.ret (.ret ((), (([], ((spVZip d.1.1 d.1.2.1 d.2.1.2.2.2.2.1).2, ())), ()))))) .no
def lpvParts : Lp := lpT [(7, loHd lovParts_7 FvParts_7)]
def stepvParts_7 {R : Type} (h3 : Int) (h4 : List tFld.den) (h5 : List Int) (h6 : Int) (h7 : Int) (h8 : Int) (h9 : Bool) (h10 : List Int) (h11 : List (Nd)) (next : Int → List tFld.den → List Int → Int → Int → Int → Bool → List Int → List (Nd) → Option R) (out : DenX lovParts_7.xs → Option R) : Option R := bif decide (h6 < (↑h4.length : Int)) then bif decide (0 ≤ h6) && decide (h6 < (↑h4.length : Int)) then bif decide (0 ≤ h6) && decide (h6 < (↑h11.length : Int)) then bif decide (2 * spWt (Tre.mk (h11.getD h6.toNat (Tre.mk (0, 0, false, [], ()) [])).1 (h11.getD h6.toNat (Tre.mk (0, 0, false, [], ()) [])).2) + 1 ≤ spFuel) && (spArr (Tre.mk (h4.getD h6.toNat (Tre.mk ([], 0, 0, 0, ()) [])).1 (h4.getD h6.toNat (Tre.mk ([], 0, 0, 0, ()) [])).2) && decide (8 * spWt (Tre.mk (h11.getD h6.toNat (Tre.mk (0, 0, false, [], ()) [])).1 (h11.getD h6.toNat (Tre.mk (0, 0, false, [], ()) [])).2) ≤ 4294967296)) then bif (spVal (Tre.mk (h4.getD h6.toNat (Tre.mk ([], 0, 0, 0, ()) [])).1 (h4.getD h6.toNat (Tre.mk ([], 0, 0, 0, ()) [])).2) h3 (Tre.mk (h11.getD h6.toNat (Tre.mk (0, 0, false, [], ()) [])).1 (h11.getD h6.toNat (Tre.mk (0, 0, false, [], ()) [])).2)).snd != 0 then out (.ret ((), (([], ((spVal (Tre.mk (h4.getD h6.toNat (Tre.mk ([], 0, 0, 0, ()) [])).1 (h4.getD h6.toNat (Tre.mk ([], 0, 0, 0, ()) [])).2) h3 (Tre.mk (h11.getD h6.toNat (Tre.mk (0, 0, false, [], ()) [])).1 (h11.getD h6.toNat (Tre.mk (0, 0, false, [], ()) [])).2)).snd, ())), ()))) else bif decide (h5.length + (spVal (Tre.mk (h4.getD h6.toNat (Tre.mk ([], 0, 0, 0, ()) [])).1 (h4.getD h6.toNat (Tre.mk ([], 0, 0, 0, ()) [])).2) h3 (Tre.mk (h11.getD h6.toNat (Tre.mk (0, 0, false, [], ()) [])).1 (h11.getD h6.toNat (Tre.mk (0, 0, false, [], ()) [])).2)).fst.length ≤ 4294967296) then next (h3) (h4) (h5 ++ (spVal (Tre.mk (h4.getD h6.toNat (Tre.mk ([], 0, 0, 0, ()) [])).1 (h4.getD h6.toNat (Tre.mk ([], 0, 0, 0, ()) [])).2) h3 (Tre.mk (h11.getD h6.toNat (Tre.mk (0, 0, false, [], ()) [])).1 (h11.getD h6.toNat (Tre.mk (0, 0, false, [], ()) [])).2)).fst) (IntKind.i64.wrap (h6 + 1)) (h7) (h8) (h9) (h10) (h11) else none else none else none else none else out (.pan (.ret ((), ((h5, ()), ()))))
def itvParts_7 (n : Nat) (h3 : Int) (h4 : List tFld.den) (h5 : List Int) (h6 : Int) (h7 : Int) (h8 : Int) (h9 : Bool) (h10 : List Int) (h11 : List (Nd)) : Option (DenX lovParts_7.xs) := lpN tt hdvParts dr lpvParts 0 Go.Proofs.Tryz.f174 (topL Go.Proofs.Tryz.f174 0) n (lovParts_7.st.mk' ((h3, (h4, (h5, (h6, ())))), ((h7, (h8, (h9, (h10, (h11, ()))))), ()))) (decX lovParts_7.xs)
theorem slvParts_7 (n : Nat) (h3 : Int) (h4 : List tFld.den) (h5 : List Int) (h6 : Int) (h7 : Int) (h8 : Int) (h9 : Bool) (h10 : List Int) (h11 : List (Nd)) : itvParts_7 (n + 1) h3 h4 h5 h6 h7 h8 h9 h10 h11 = stepvParts_7 h3 h4 h5 h6 h7 h8 h9 h10 h11 (itvParts_7 n) some := by kernel_rfl
theorem loopvParts {fs : List Fd} {ks : List Nd} {v : Int} (hl : ks.length ≤ maxLen) (hfk : fs.length = ks.length) (ha : spArrs fs = true) (hf : 2 * spWts ks + 1 ≤ spFuel) (hb : 8 * spWts ks ≤ 4294967296) (a b : Int) (z : Bool) (x : List Int) : ∀ (k j : Nat) (o : List Int), ks.length < j + k → j ≤ ks.length → o.length + 8 * spWts (ks.drop j) ≤ 4294967296 →
    itvParts_7 k v fs o j a b z x ks = if (spVZip v (fs.drop j) (ks.drop j)).2 = 0 then some (.pan (.ret ((), ((o ++ (spVZip v (fs.drop j) (ks.drop j)).1, ()), ())))) else some (.ret ((), (([], ((spVZip v (fs.drop j) (ks.drop j)).2, ())), ()))) := by
  intro k
  induction k with
  | zero => intro j o h1 h2; omega
  | succ k ih =>
    intro j o h1 h2 h3
    rw [slvParts_7]
    unfold stepvParts_7
    by_cases hj : j < ks.length
    · have hj' : j < fs.length := by omega
      refine (bif_true (decide_eq_true (show (j : Int) < (fs.length : Int) by omega)) _ _).trans ?_
      refine (bif_true (by simp; omega) _ _).trans ?_
      refine (bif_true (by simp; omega) _ _).trans ?_
      have hmem := spWt_mem (List.getElem_mem hj)
      have har := spArrs_mem ha (List.getElem_mem hj')
      have hd : ks.drop j = ks[j] :: ks.drop (j + 1) := List.drop_eq_getElem_cons hj
      have hd' : fs.drop j = fs[j] :: fs.drop (j + 1) := List.drop_eq_getElem_cons hj'
      have hvl := spVal_len fs[j] v ks[j]
      have ih' := ih (j + 1) (o ++ (spVal fs[j] v ks[j]).1) (by omega) (by omega)
      rw [hd, spWts_cons] at h3
      rw [hd, hd', spVZip]
      rw [wrap_succ hj hl]
      simp only [Int.toNat_natCast, getD_lt hj, getD_lt hj']
      generalize ks[j] = u at hmem hvl ih' h3 ⊢
      generalize fs[j] = f0 at har hvl ih' ⊢
      obtain ⟨ul, uk⟩ := u
      obtain ⟨fl, fk⟩ := f0
      refine (bif_true (show (decide (2 * spWt (Tre.mk ul uk) + 1 ≤ spFuel) && (spArr (Tre.mk fl fk) && decide (8 * spWt (Tre.mk ul uk) ≤ 4294967296))) = true by rw [har]; simp; omega) _ _).trans ?_
      by_cases he : (spVal (Tre.mk fl fk) v (Tre.mk ul uk)).2 = 0
      · refine (bif_false (show ((spVal (Tre.mk fl fk) v (Tre.mk ul uk)).2 != 0) = false by rw [he]; rfl) _ _).trans ?_
        refine (bif_true (decide_eq_true (show o.length + (spVal (Tre.mk fl fk) v (Tre.mk ul uk)).1.length ≤ 4294967296 by omega)) _ _).trans ?_
        refine (ih' (by rw [List.length_append]; omega)).trans ?_
        by_cases h2 : (spVZip v (fs.drop (j + 1)) (ks.drop (j + 1))).2 = 0
        · simp [he, h2]
        · simp [he, h2]
      · refine (bif_true (show ((spVal (Tre.mk fl fk) v (Tre.mk ul uk)).2 != 0) = true by simpa using he) _ _).trans ?_
        simp [he]
    · refine (bif_false (decide_eq_false (show ¬ (j : Int) < (fs.length : Int) by omega)) _ _).trans ?_
      rw [List.drop_of_length_le (by omega), List.drop_of_length_le (by omega), spVZip, if_pos rfl, List.append_nil]
      simp
def bodyvParts (a0 : List tFld.den) (a1 : Int) (a2 : Nd) : Option iovParts.Res := bif decide (a0.length ≤ 4294967296) then bif (↑a2.2.length : Int) != (↑(spHere a0 a1).length : Int) then some (Out.ret (([], 101, ()), ())) else (FvParts_7 ((a1, (spHere a0 a1, ([], (0, ())))), ((a2.1.fst, (a2.1.snd.fst, (a2.1.snd.snd.fst, (a2.1.snd.snd.snd.fst, (a2.2, ()))))), ()))).run fun y => match y with | .ret ((), ((x24, x25, ()), ())) => (some (Out.ret ((x24, x25, ()), ()))) | .pan (.ret ((), ((x26, ()), ()))) => (some (Out.ret ((x26, 0, ()), ()))) else none
theorem runvParts (a0 : List tFld.den) (a1 : Int) (a2 : Nd) : Io.run tt hdvParts dr lpvParts iovParts Go.Proofs.Tryz.f174 ((a0, a1, a2, ()), ()) = bodyvParts a0 a1 a2 := by kernel_rfl
theorem okvPartsS (rvValue : HcOk prog 188 (ioHd iovValue (FvValueN spFuel))) : HcOk prog 174 (ioHd iovParts (FvPartsN (spFuel + 1))) := by
  refine fn_sound (n := 400) hm (cs := csvParts) (.cons oktHere (.cons rvValue (.cons okCat .nil))) (lp := lpvParts) (fn := Go.Proofs.Tryz.f174) (by kernel_rfl) (by kernel_rfl) (by kernel_rfl) iovParts (.step (h0 := loHd lovParts_7 FvParts_7) (by kernel_rfl) (loop_sound (n := 400) hm (cs := csvParts) (.cons oktHere (.cons rvValue (.cons okCat .nil))) (lp := lpvParts) (fn := Go.Proofs.Tryz.f174) (.done (by kernel_rfl)) lovParts_7 FvParts_7 ?_) (.done (by kernel_rfl))) (FvPartsN (spFuel + 1)) ?_
  · rintro ⟨⟨(v : Int), (fs : List Fd), (o : List Int), (i : Int), ⟨⟩⟩, ⟨⟨(a : Int), (b : Int), (z : Bool), (x : List Int), (ks : List Nd), ⟨⟩⟩, ⟨⟩⟩⟩ y hw hy
    obtain ⟨hg, hy⟩ := Tr.guard hy
    simp only [Bool.and_eq_true, decide_eq_true_eq] at hg
    obtain ⟨h1, h2, ⟨h3, h4⟩, h5, h6⟩ := hg
    have h1 : i = 0 := h1
    have h2 : o = [] := List.eq_nil_of_length_eq_zero h2
    have h3 : fs.length = ks.length := h3
    have h4 : spArrs fs = true := h4
    have h5 : 2 * spWts ks + 1 ≤ spFuel := h5
    have h6 : 8 + 8 * spWts ks ≤ 4294967296 := h6
    subst h1
    subst h2
    refine ⟨ks.length + 1, (loopvParts (by have := hw.2.1.2.2.2.2.1.1; exact this) h3 h4 h5 (by omega) a b z x (ks.length + 1) 0 [] (by omega) (by omega) (by rw [List.drop_zero]; simp; omega)).trans ?_⟩
    rw [← hy, List.drop_zero, List.drop_zero]
    by_cases h : (spVZip v fs ks).2 = 0
    · rw [if_pos h]; exact (bif_true (decide_eq_true h) _ _).symm
    · rw [if_neg h]; exact (bif_false (decide_eq_false h) _ _).symm
  · rintro ⟨⟨(fs : List Fd), (v : Int), (n : Nd), ⟨⟩⟩, ⟨⟩⟩ out hw ho
    obtain ⟨hg, ho⟩ := Tr.guard ho
    simp only [Bool.and_eq_true, decide_eq_true_eq] at hg
    obtain ⟨hk, ha, hb, hl⟩ := hg
    have hk : 2 * spWt n ≤ spFuel + 1 := hk
    have ha : spArrs fs = true := ha
    have hb : 8 * spWt n ≤ 4294967296 := hb
    have hl : fs.length ≤ 4294967296 := hl
    cases ho
    refine (runvParts fs v n).trans ?_
    unfold bodyvParts
    show _ = some (Out.ret (((spVParts fs v n).1, ((spVParts fs v n).2, ())), ()))
    obtain ⟨⟨a, b, z, x, ⟨⟩⟩, ks⟩ := n
    have hwf := spWt_eq (Tre.mk (a, (b, (z, (x, ())))) ks)
    have hwf : spWt (Tre.mk (a, (b, (z, (x, ())))) ks) = 1 + x.length + spWts ks := hwf
    have hk : 2 * (1 + x.length + spWts ks) ≤ spFuel + 1 := by rw [← hwf]; exact hk
    have hb : 8 * (1 + x.length + spWts ks) ≤ 4294967296 := by rw [← hwf]; exact hb
    rw [spVParts]
    refine (bif_true (decide_eq_true hl) _ _).trans ?_
    by_cases h1 : ks.length = (spHere fs v).length
    · rw [if_neg (by simpa using h1)]
      refine (bif_false (by simp [h1]) _ _).trans ?_
      have c1 : (decide ((0 : Int) = 0) && (decide (([] : List Int).length = 0) && ((decide ((spHere fs v).length = ks.length) && spArrs (spHere fs v)) && (decide (2 * spWts ks + 1 ≤ spFuel) && decide (8 + 8 * spWts ks ≤ 4294967296))))) = true := by
        rw [spArrs_here ha]; simp; omega
      refine (bif_true c1 _ _).trans ?_
      by_cases h5 : (spVZip v (spHere fs v) ks).2 = 0
      · refine (bif_true (decide_eq_true h5) _ _).trans ?_
        rw [h5]; rfl
      · refine (bif_false (decide_eq_false h5) _ _).trans ?_
        rw [spVZip_nil h5]; rfl
    · rw [if_pos h1]
      exact bif_true (bne_iff_ne.2 (fun e => h1 (Int.ofNat.inj e))) _ _
end
theorem okvBoth (n : Nat) : HcOk prog 188 (ioHd iovValue (FvValueN n)) ∧ HcOk prog 174 (ioHd iovParts (FvPartsN n)) := by
  induction n with
  | zero => 
    refine ⟨HcOk.none (fn := Go.Proofs.Tryz.f188) (by kernel_rfl) (by kernel_rfl) (by kernel_rfl) _ _ fun d out h => ?_, HcOk.none (fn := Go.Proofs.Tryz.f174) (by kernel_rfl) (by kernel_rfl) (by kernel_rfl) _ _ fun d out h => ?_⟩
    · cases h
    · obtain ⟨hg, h⟩ := Tr.guard h
      simp only [Bool.and_eq_true, decide_eq_true_eq] at hg
      have := spWt_pos d.1.2.2.1
      omega
  | succ n ih =>
    have h1 := @okvValueS ⟨⟨n⟩⟩ (by rw [FuT.val]; exact ih.1) (by rw [FuT.val]; exact ih.2)
    have h2 := @okvPartsS ⟨⟨n⟩⟩ (by rw [FuT.val]; exact ih.1)
    rw [FuT.val] at h1 h2
    exact ⟨h1, h2⟩
theorem okvParts : HcOk prog 174 (ioHd iovParts FvParts) := by
  refine HcOk.lim (fun n => (okvBoth n).2) fun d => ⟨2 * spWt d.1.2.2.1, fun out h => ?_⟩
  obtain ⟨hg, h⟩ := Tr.guard h
  exact (bif_true (by rw [hg]; simp) _ _).trans h
end
end Go.Proofs.YtjpeefegeobgfaaGreat.Sym
namespace Go.Proofs.YtjpeefegeobgfaaGreat.Sym
open Go
set_option linter.unusedSimpArgs false
set_option linter.unusedVariables false
noncomputable section
@[irreducible] noncomputable def spFw (f : Fd) : Nat := f.wt fun _ => 0
@[irreducible] noncomputable def spFws (l : List Fd) : Nat := Tre.wts (fun _ => 0) l
theorem spFw_eq (f : Fd) : spFw f = 1 + spFws f.kids := by unfold spFw spFws; exact Tre.wt_eq _ f
theorem spFw_mem {k : Fd} {l : List Fd} (h : k ∈ l) : spFw k ≤ spFws l := by unfold spFw spFws; exact Tre.wts_mem h
def spVers (ks : List Fd) : Nat → Int → Int → Bool
  | 0, _, _ => true
  | k + 1, v, hi => if v ≤ hi then (if (spHere ks v).length = 0 then false else spVers ks k (v + 1) hi) else true
def spNew (ks : List Fd) (s : List Int) : Bool := ks.all fun k => !decide (k.lab.1 = s)
def spDist (ks : List Fd) : Nat → List Fd → Bool
  | _, [] => true
  | j, f :: fs => spNew (ks.take j) f.lab.1 && spDist ks (j + 1) fs
mutual
def spFieldOk (d : Int) : Fd → Bool
  | .mk a ks => if a.1.length = 0 then false else if a.2.2.1 < 0 then false else if 3 < a.2.2.2.1 then false else if a.2.2.2.1 < a.2.2.1 then false else if a.2.1 < 1 then false else if 10 < a.2.1 then false
      else if a.2.1 < 9 then (if ks.length = 0 then true else false) else if spListOk (d + 1) ks = false then false else if spVers ks 5 a.2.2.1 a.2.2.2.1 = false then false else if a.2.1 = 10 then true else if ks.length = 1 then true else false
termination_by f => (SizeOf.sizeOf f, 0)
def spListOk (d : Int) (ks : List Fd) : Bool := if ks.length < 1 then false else if 16 < ks.length then false else if 8 < d then false else spDist ks 0 ks && spFieldsOk d ks
termination_by (SizeOf.sizeOf ks, 1)
def spFieldsOk (d : Int) : List Fd → Bool
  | [] => true
  | k :: ks => spFieldOk d k && spFieldsOk d ks
termination_by l => (SizeOf.sizeOf l, 0)
end
abbrev iovList : Io := ⟨[dFlds, dI], [], [], [dB], none⟩
def FvListN (n : Nat) (d : iovList.In) : Tr iovList.Res := .ite (decide (2 * spFws d.1.1 + 2 ≤ n) && (decide ((0 : Int) ≤ d.1.2.1) && decide (d.1.2.1 ≤ 1000))) (.ret (.ret ((spListOk d.1.2.1 d.1.1, ()), ()))) .no
def FvList (d : iovList.In) : Tr iovList.Res := .ite ((decide ((0 : Int) ≤ d.1.2.1) && decide (d.1.2.1 ≤ 1000))) (.ret (.ret ((spListOk d.1.2.1 d.1.1, ()), ()))) .no
abbrev iovField : Io := ⟨[dFld, dI], [], [], [dB], none⟩
def FvFieldN (n : Nat) (d : iovField.In) : Tr iovField.Res := .ite (decide (2 * spFw d.1.1 + 1 ≤ n) && (decide ((0 : Int) ≤ d.1.2.1) && decide (d.1.2.1 ≤ 999))) (.ret (.ret ((spFieldOk d.1.2.1 d.1.1, ()), ()))) .no
section
variable [Inhabited FuT]
abbrev csvList : List (Nat × Hc) := [(203, ioHd iovField (FvFieldN spFuel))]
def hdvList : Hd := hdT csvList
abbrev lovList_8 : Lo := ⟨⟨[.one (.hol (.sl 213 tFld)), .one (.hol (.int IntKind.i64)), .any, .any, .any, .one (.hol (.int IntKind.i64)), .one (.hol (.int IntKind.i64)), .any, .any, .any, .any, .any, .any, .any, .any, .any, .any, .any, .any, .any, .any, .any, .any, .any, .any, .any, .any, .any, .any, .any, .any, .any, .any, .any, .any, .any, .any, .any, .any, .any, .any, .any, .any, .any, .any, .any, .any, .any], []⟩, [(.ret, ⟨[.any, .any, .any, .any, .one (.hol .bool), .any, .any, .any, .any, .any, .any, .any, .any, .any, .any, .any, .any, .any, .any, .any, .any, .any, .any, .any, .any, .any, .any, .any, .any, .any, .any, .any, .any, .any, .any, .any, .any, .any, .any, .any, .any, .any, .any, .any, .any, .any, .any, .any], []⟩), (.exit 2, ⟨[.one (.hol (.sl 213 tFld)), .one (.hol (.int IntKind.i64)), .any, .any, .any, .one (.hol (.int IntKind.i64)), .any, .any, .any, .any, .any, .any, .any, .any, .any, .any, .any, .any, .any, .any, .any, .any, .any, .any, .any, .any, .any, .any, .any, .any, .any, .any, .any, .any, .any, .any, .any, .any, .any, .any, .any, .any, .any, .any, .any, .any, .any, .any], []⟩)]⟩
-- FvList_8 : lovList_8.st.den → Tr (DenX lovList_8.xs) | ((h5, (h6, (h7, (h8, ())))), ())
abbrev lovList_5 : Lo := ⟨⟨[.one (.hol (.sl 213 tFld)), .one (.hol (.int IntKind.i64)), .any, .any, .any, .one (.hol (.int IntKind.i64)), .any, .any, .any, .any, .any, .any, .any, .any, .any, .any, .any, .any, .any, .any, .any, .any, .any, .any, .any, .any, .any, .any, .any, .any, .any, .any, .any, .any, .any, .any, .any, .any, .any, .any, .any, .any, .any, .any, .any, .any, .any, .any], []⟩, [(.ret, ⟨[.any, .any, .any, .any, .one (.hol .bool), .any, .any, .any, .any, .any, .any, .any, .any, .any, .any, .any, .any, .any, .any, .any, .any, .any, .any, .any, .any, .any, .any, .any, .any, .any, .any, .any, .any, .any, .any, .any, .any, .any, .any, .any, .any, .any, .any, .any, .any, .any, .any, .any], []⟩), (.exit 0, ⟨[.any, .any, .any, .any, .any, .any, .any, .any, .any, .any, .any, .any, .any, .any, .any, .any, .any, .any, .any, .any, .any, .any, .any, .any, .any, .any, .any, .any, .any, .any, .any, .any, .any, .any, .any, .any, .any, .any, .any, .any, .any, .any, .any, .any, .any, .any, .any, .any], []⟩)]⟩
-- FvList_5 : lovList_5.st.den → Tr (DenX lovList_5.xs) | ((h2, (h3, (h4, ()))), ())
def FvList_8 (d : lovList_8.st.den) : Tr (DenX lovList_8.xs) :=
  .ite (decide (d.1.2.2.2.1 = 0) && (decide ((0 : Int) ≤ d.1.2.2.1) && decide (d.1.2.2.1 < (d.1.1.length : Int))))
    (.ite (spNew (d.1.1.take d.1.2.2.1.toNat) (d.1.1.getD d.1.2.2.1.toNat (Tre.mk ([], (0, (0, (0, ())))) [])).lab.1) (.ret (.pan (.ret ((), ((d.1.1, (d.1.2.1, (d.1.2.2.1, ()))), ()))))) (.ret (.ret ((), ((false, ()), ()))))) .no
def FvList_5 (d : lovList_5.st.den) : Tr (DenX lovList_5.xs) :=
  .ite (decide (d.1.2.2.1 = 0) && ((decide ((0 : Int) ≤ d.1.2.1) && decide (d.1.2.1 ≤ 999)) && (decide (2 * spFws d.1.1 + 1 ≤ spFuel) && decide (d.1.1.length ≤ 16))))
    (.ite (spDist d.1.1 0 d.1.1 && spFieldsOk d.1.2.1 d.1.1) (.ret (.pan (.ret ((), ((), ()))))) (.ret (.ret ((), ((false, ()), ()))))) .no
def lpvList : Lp := lpT [(5, loHd lovList_5 FvList_5), (8, loHd lovList_8 FvList_8)]
def stepvList_8 {R : Type} (h5 : List tFld.den) (h6 : Int) (h7 : Int) (h8 : Int) (next : List tFld.den → Int → Int → Int → Option R) (out : DenX lovList_8.xs → Option R) : Option R := bif decide (h8 < h7) then bif decide (0 ≤ h8) && decide (h8 < (↑h5.length : Int)) then bif decide (0 ≤ h7) && decide (h7 < (↑h5.length : Int)) then bif decide ((h5.getD h8.toNat (Tre.mk ([], 0, 0, 0, ()) [])).1.fst = (h5.getD h7.toNat (Tre.mk ([], 0, 0, 0, ()) [])).1.fst) then out (.ret ((), ((false, ()), ()))) else next (h5) (h6) (h7) (IntKind.i64.wrap (h8 + 1)) else none else none else out (.pan (.ret ((), ((h5, (h6, (h7, ()))), ()))))
def itvList_8 (n : Nat) (h5 : List tFld.den) (h6 : Int) (h7 : Int) (h8 : Int) : Option (DenX lovList_8.xs) := lpN tt hdvList dr lpvList 0 Go.Proofs.Tryz.f196 (subL Go.Proofs.Tryz.f196 (topL Go.Proofs.Tryz.f196 0) 0) n (lovList_8.st.mk' ((h5, (h6, (h7, (h8, ())))), ())) (decX lovList_8.xs)
theorem slvList_8 (n : Nat) (h5 : List tFld.den) (h6 : Int) (h7 : Int) (h8 : Int) : itvList_8 (n + 1) h5 h6 h7 h8 = stepvList_8 h5 h6 h7 h8 (itvList_8 n) some := by kernel_rfl
def stepvList_5 {R : Type} (h2 : List tFld.den) (h3 : Int) (h4 : Int) (next : List tFld.den → Int → Int → Option R) (out : DenX lovList_5.xs → Option R) : Option R := bif decide (h4 < (↑h2.length : Int)) then (FvList_8 ((h2, (h3, (h4, (0, ())))), ())).run fun y => match y with | .ret ((), ((x17, ()), ())) => (out (.ret ((), ((x17, ()), ())))) | .pan (.ret ((), ((x19, x20, x21, ()), ()))) => (bif decide (0 ≤ x21) && decide (x21 < (↑x19.length : Int)) then bif decide (2 * spFw (Tre.mk (x19.getD x21.toNat (Tre.mk ([], 0, 0, 0, ()) [])).1 (x19.getD x21.toNat (Tre.mk ([], 0, 0, 0, ()) [])).2) + 1 ≤ spFuel) && (decide (0 ≤ x20) && decide (x20 ≤ 999)) then bif !spFieldOk x20 (Tre.mk (x19.getD x21.toNat (Tre.mk ([], 0, 0, 0, ()) [])).1 (x19.getD x21.toNat (Tre.mk ([], 0, 0, 0, ()) [])).2) then out (.ret ((), ((false, ()), ()))) else next (x19) (x20) (IntKind.i64.wrap (x21 + 1)) else none else none) else out (.pan (.ret ((), ((), ()))))
def itvList_5 (n : Nat) (h2 : List tFld.den) (h3 : Int) (h4 : Int) : Option (DenX lovList_5.xs) := lpN tt hdvList dr lpvList 0 Go.Proofs.Tryz.f196 (topL Go.Proofs.Tryz.f196 0) n (lovList_5.st.mk' ((h2, (h3, (h4, ()))), ())) (decX lovList_5.xs)
theorem slvList_5 (n : Nat) (h2 : List tFld.den) (h3 : Int) (h4 : Int) : itvList_5 (n + 1) h2 h3 h4 = stepvList_5 h2 h3 h4 (itvList_5 n) some := by kernel_rfl
theorem loopvList_8 {fs : List Fd} (d : Int) {i : Nat} (hi : i < fs.length) (hl : fs.length ≤ maxLen) : ∀ (k j : Nat), i < j + k → j ≤ i → spNew (fs.take j) (fs[i]).lab.1 = true →
    itvList_8 k fs d i j = if spNew (fs.take i) (fs[i]).lab.1 = true then some (.pan (.ret ((), ((fs, (d, ((i : Int), ()))), ())))) else some (.ret ((), ((false, ()), ()))) := by
  intro k
  induction k with
  | zero => intro j h1 h2; omega
  | succ k ih =>
    intro j h1 h2 h3
    rw [slvList_8]
    unfold stepvList_8
    by_cases hj : j < i
    · have hjl : j < fs.length := by omega
      refine (bif_true (decide_eq_true (show (j : Int) < (i : Int) by omega)) _ _).trans ?_
      refine (bif_true (by simp; omega) _ _).trans ?_
      refine (bif_true (by simp; omega) _ _).trans ?_
      rw [wrap_succ hjl hl]
      simp only [Int.toNat_natCast, getD_lt hi, getD_lt hjl]
      by_cases he : (fs[j]).lab.1 = (fs[i]).lab.1
      · refine (bif_true (decide_eq_true he) _ _).trans ?_
        rw [if_neg]
        intro h
        have hm : fs[j] ∈ fs.take i := by rw [List.mem_take_iff_getElem]; exact ⟨j, by omega, rfl⟩
        have := List.all_eq_true.1 h fs[j] hm
        simp [he] at this
      · refine (bif_false (decide_eq_false he) _ _).trans ?_
        refine ih (j + 1) (by omega) (by omega) ?_
        rw [List.take_succ_eq_append_getElem hjl]
        unfold spNew at h3 ⊢
        rw [List.all_append, h3]
        simp [he]
    · refine (bif_false (decide_eq_false (show ¬ (j : Int) < (i : Int) by omega)) _ _).trans ?_
      have : j = i := by omega
      rw [if_pos (this ▸ h3)]
theorem loopvList_5 {fs : List Fd} {d : Int} (hd : 0 ≤ d ∧ d ≤ 999) (hf : 2 * spFws fs + 1 ≤ spFuel) (hl : fs.length ≤ 16) : ∀ (k j : Nat), fs.length < j + k → j ≤ fs.length →
    itvList_5 k fs d j = if (spDist fs j (fs.drop j) && spFieldsOk d (fs.drop j)) = true then some (.pan (.ret ((), ((), ())))) else some (.ret ((), ((false, ()), ()))) := by
  intro k
  induction k with
  | zero => intro j h1 h2; omega
  | succ k ih =>
    intro j h1 h2
    rw [slvList_5]
    unfold stepvList_5
    by_cases hj : j < fs.length
    · refine (bif_true (decide_eq_true (show (j : Int) < (fs.length : Int) by omega)) _ _).trans ?_
      have hdr : fs.drop j = fs[j] :: fs.drop (j + 1) := List.drop_eq_getElem_cons hj
      have hmem := spFw_mem (List.getElem_mem hj)
      have ih' := ih (j + 1) (by omega) (by omega)
      rw [hdr, spDist, spFieldsOk]
      have hgd : fs.getD ((j : Int)).toNat (Tre.mk (([] : List Int), ((0 : Int), ((0 : Int), ((0 : Int), ())))) ([] : List Fd)) = fs[j] := by simp only [Int.toNat_natCast]; exact getD_lt hj
      have c8 : (decide ((0 : Int) = 0) && (decide ((0 : Int) ≤ (j : Int)) && decide ((j : Int) < (fs.length : Int)))) = true := by simp; omega
      have e8 : FvList_8 ((fs, (d, ((j : Int), ((0 : Int), ())))), ()) = .ite true (.ite (spNew (fs.take j) (fs[j]).lab.1) (.ret (.pan (.ret ((), ((fs, (d, ((j : Int), ()))), ()))))) (.ret (.ret ((), ((false, ()), ()))))) .no := by
        unfold FvList_8
        rw [← c8]
        show Tr.ite _ (Tr.ite (spNew (fs.take ((j : Int)).toNat) (fs.getD ((j : Int)).toNat _).lab.1) _ _) _ = _
        rw [hgd]; simp only [Int.toNat_natCast]
      rw [e8]
      by_cases hn : spNew (fs.take j) (fs[j]).lab.1 = true
      · rw [hn]
        show (bif decide (0 ≤ (j : Int)) && decide ((j : Int) < (fs.length : Int)) then _ else none) = _
        refine (bif_true (by simp; omega) _ _).trans ?_
        rw [wrap_i64 (n := (j : Int) + 1) (by omega) (by omega)]
        simp only [Int.toNat_natCast, getD_lt hj]
        generalize fs[j] = f0 at hmem ⊢
        obtain ⟨fl, fk⟩ := f0
        refine (bif_true (show (decide (2 * spFw (Tre.mk fl fk) + 1 ≤ spFuel) && (decide ((0 : Int) ≤ d) && decide (d ≤ 999))) = true by simp; omega) _ _).trans ?_
        by_cases hv : spFieldOk d (Tre.mk fl fk) = true
        · refine (bif_false (show (!spFieldOk d (Tre.mk fl fk)) = false by rw [hv]; rfl) _ _).trans ?_
          refine ih'.trans ?_
          rw [hv]; simp
        · refine (bif_true (show (!spFieldOk d (Tre.mk fl fk)) = true by simpa using hv) _ _).trans ?_
          simp [hv]
      · have hn : spNew (fs.take j) (fs[j]).lab.1 = false := by simpa using hn
        rw [hn]
        rfl
    · refine (bif_false (decide_eq_false (show ¬ (j : Int) < (fs.length : Int) by omega)) _ _).trans ?_
      rw [List.drop_of_length_le (by omega), spDist, spFieldsOk]
      rfl
def bodyvList (a0 : List tFld.den) (a1 : Int) : Option iovList.Res := bif decide ((↑a0.length : Int) < 1) then some (Out.ret ((false, ()), ())) else bif decide (16 < (↑a0.length : Int)) then some (Out.ret ((false, ()), ())) else bif decide (8 < a1) then some (Out.ret ((false, ()), ())) else (FvList_5 ((a0, (a1, (0, ()))), ())).run fun y => match y with | .ret ((), ((x26, ()), ())) => (some (Out.ret ((x26, ()), ()))) | .pan (.ret ((), ((), ()))) => (some (Out.ret ((true, ()), ())))
theorem runvList (a0 : List tFld.den) (a1 : Int) : Io.run tt hdvList dr lpvList iovList Go.Proofs.Tryz.f196 ((a0, a1, ()), ()) = bodyvList a0 a1 := by kernel_rfl
theorem okvListS (rvField : HcOk prog 203 (ioHd iovField (FvFieldN spFuel))) : HcOk prog 196 (ioHd iovList (FvListN (spFuel + 1))) := by
  refine fn_sound (n := 400) hm (cs := csvList) (.cons rvField .nil) (lp := lpvList) (fn := Go.Proofs.Tryz.f196) (by kernel_rfl) (by kernel_rfl) (by kernel_rfl) iovList (.step (h0 := loHd lovList_5 FvList_5) (by kernel_rfl) (loop_sound (n := 400) hm (cs := csvList) (.cons rvField .nil) (lp := lpvList) (fn := Go.Proofs.Tryz.f196) (.step (h0 := loHd lovList_8 FvList_8) (by kernel_rfl) (loop_sound (n := 400) hm (cs := csvList) (.cons rvField .nil) (lp := lpvList) (fn := Go.Proofs.Tryz.f196) (.done (by kernel_rfl)) lovList_8 FvList_8 ?_) (.done (by kernel_rfl))) lovList_5 FvList_5 ?_) (.done (by kernel_rfl))) (FvListN (spFuel + 1)) ?_
  · rintro ⟨⟨(fs : List Fd), (d : Int), (i : Int), (j : Int), ⟨⟩⟩, ⟨⟩⟩ y hw hy
    obtain ⟨hg, hy⟩ := Tr.guard hy
    simp only [Bool.and_eq_true, decide_eq_true_eq] at hg
    obtain ⟨h1, h2, h3⟩ := hg
    have h1 : j = 0 := h1
    have h2 : 0 ≤ i := h2
    have h3 : i < (fs.length : Int) := h3
    subst h1
    obtain ⟨i, rfl⟩ := toNat_of h2
    have hi : i < fs.length := by omega
    refine ⟨i + 1, (loopvList_8 d hi hw.1.1.1 (i + 1) 0 (by omega) (by omega) (by simp [spNew])).trans ?_⟩
    rw [← hy]
    have hgd : fs.getD ((i : Int)).toNat (Tre.mk (([] : List Int), ((0 : Int), ((0 : Int), ((0 : Int), ())))) ([] : List Fd)) = fs[i] := by simp only [Int.toNat_natCast]; exact getD_lt hi
    show _ = (Tr.ite (spNew (fs.take ((i : Int)).toNat) (fs.getD ((i : Int)).toNat _).lab.1) _ _).val
    rw [hgd]
    simp only [Int.toNat_natCast]
    by_cases h : spNew (fs.take i) (fs[i]).lab.1 = true
    · rw [if_pos h]; exact (bif_true h _ _).symm
    · rw [if_neg h]; exact (bif_false (by simpa using h) _ _).symm
  · rintro ⟨⟨(fs : List Fd), (d : Int), (i : Int), ⟨⟩⟩, ⟨⟩⟩ y hw hy
    obtain ⟨hg, hy⟩ := Tr.guard hy
    simp only [Bool.and_eq_true, decide_eq_true_eq] at hg
    obtain ⟨h1, ⟨h2, h3⟩, h4, h5⟩ := hg
    have h1 : i = 0 := h1
    have h2 : 0 ≤ d := h2
    have h3 : d ≤ 999 := h3
    have h4 : 2 * spFws fs + 1 ≤ spFuel := h4
    have h5 : fs.length ≤ 16 := h5
    subst h1
    refine ⟨fs.length + 1, (loopvList_5 ⟨h2, h3⟩ h4 h5 (fs.length + 1) 0 (by omega) (by omega)).trans ?_⟩
    rw [← hy, List.drop_zero]
    by_cases h : (spDist fs 0 fs && spFieldsOk d fs) = true
    · rw [if_pos h]; exact (bif_true h _ _).symm
    · rw [if_neg h]; exact (bif_false (by simpa using h) _ _).symm
  · rintro ⟨⟨(fs : List Fd), (d : Int), ⟨⟩⟩, ⟨⟩⟩ out hw ho
    obtain ⟨hg, ho⟩ := Tr.guard ho
    simp only [Bool.and_eq_true, decide_eq_true_eq] at hg
    obtain ⟨hk, hd1, hd2⟩ := hg
    have hk : 2 * spFws fs + 2 ≤ spFuel + 1 := hk
    have hd1 : 0 ≤ d := hd1
    have hd2 : d ≤ 1000 := hd2
    cases ho
    refine (runvList fs d).trans ?_
    unfold bodyvList
    show _ = some (Out.ret ((spListOk d fs, ()), ()))
    rw [spListOk]
    by_cases h1 : fs.length < 1
    · rw [if_pos h1]
      exact bif_true (decide_eq_true (by omega)) _ _
    rw [if_neg h1]
    refine (bif_false (decide_eq_false (by omega)) _ _).trans ?_
    by_cases h2 : 16 < fs.length
    · rw [if_pos h2]
      exact bif_true (decide_eq_true (by omega)) _ _
    rw [if_neg h2]
    refine (bif_false (decide_eq_false (by omega)) _ _).trans ?_
    by_cases h3 : 8 < d
    · rw [if_pos h3]
      exact bif_true (decide_eq_true h3) _ _
    rw [if_neg h3]
    refine (bif_false (decide_eq_false h3) _ _).trans ?_
    have c1 : (decide ((0 : Int) = 0) && ((decide ((0 : Int) ≤ d) && decide (d ≤ 999)) && (decide (2 * spFws fs + 1 ≤ spFuel) && decide (fs.length ≤ 16)))) = true := by simp; omega
    refine (bif_true c1 _ _).trans ?_
    by_cases h : (spDist fs 0 fs && spFieldsOk d fs) = true
    · rw [h]; rfl
    · have h : (spDist fs 0 fs && spFieldsOk d fs) = false := by simpa using h
      rw [h]; rfl
end
section
variable [Inhabited FuT]
abbrev csvField : List (Nat × Hc) := [(196, ioHd iovList (FvListN spFuel)), (187, ioHd iotHere FtHere)]
def hdvField : Hd := hdT csvField
abbrev lovField_9 : Lo := ⟨⟨[.any, .any, .one (.ptr 2 0), .any, .any, .one (.hol (.int IntKind.i64)), .any, .any, .any, .any, .any, .any, .any, .any, .any, .any, .any, .any, .any, .any, .any, .any, .any, .any, .any, .any, .any, .any, .any, .any, .any, .any, .any, .any, .any, .any, .any, .any, .any, .any, .any, .any, .any, .any, .any, .any, .any, .any, .any, .any, .any, .any, .any, .any, .any, .any, .any, .any, .any, .any, .any, .any, .any, .any, .any, .any, .any, .any, .any, .any, .any, .any, .any], [none, none, some [.hol .str, .hol (.int IntKind.i64), .hol (.int IntKind.i64), .hol (.int IntKind.i64), .hol (.sl 213 tFld)]]⟩, [(.ret, ⟨[.any, .any, .any, .any, .one (.hol .bool), .any, .any, .any, .any, .any, .any, .any, .any, .any, .any, .any, .any, .any, .any, .any, .any, .any, .any, .any, .any, .any, .any, .any, .any, .any, .any, .any, .any, .any, .any, .any, .any, .any, .any, .any, .any, .any, .any, .any, .any, .any, .any, .any, .any, .any, .any, .any, .any, .any, .any, .any, .any, .any, .any, .any, .any, .any, .any, .any, .any, .any, .any, .any, .any, .any, .any, .any, .any], []⟩), (.exit 0, ⟨[.any, .any, .one (.ptr 2 0), .any, .any, .any, .any, .any, .any, .any, .any, .any, .any, .any, .any, .any, .any, .any, .any, .any, .any, .any, .any, .any, .any, .any, .any, .any, .any, .any, .any, .any, .any, .any, .any, .any, .any, .any, .any, .any, .any, .any, .any, .any, .any, .any, .any, .any, .any, .any, .any, .any, .any, .any, .any, .any, .any, .any, .any, .any, .any, .any, .any, .any, .any, .any, .any, .any, .any, .any, .any, .any, .any], [none, none, some [.hol .str, .hol (.int IntKind.i64), .hol (.int IntKind.i64), .hol (.int IntKind.i64), .hol (.sl 213 tFld)]]⟩)]⟩
-- FvField_9 : lovField_9.st.den → Tr (DenX lovField_9.xs) | ((h2, ()), ((h3, (h4, (h5, (h6, (h7, ()))))), ()))
def FvField_9 (d : lovField_9.st.den) : Tr (DenX lovField_9.xs) :=
  .ite (((decide ((0 : Int) ≤ d.1.1) && decide (d.1.1 ≤ 4)) && decide (d.2.1.2.2.2.1 ≤ 3)) && decide (d.2.1.2.2.2.2.1.length ≤ 16))
    (.ite (spVers d.2.1.2.2.2.2.1 5 d.1.1 d.2.1.2.2.2.1) (.ret (.pan (.ret ((), ((), (d.2.1, ())))))) (.ret (.ret ((), ((false, ()), ()))))) .no
def lpvField : Lp := lpT [(9, loHd lovField_9 FvField_9)]
def stepvField_9 {R : Type} (h2 : Int) (h3 : List Int) (h4 : Int) (h5 : Int) (h6 : Int) (h7 : List (Fd)) (next : Int → List Int → Int → Int → Int → List (Fd) → Option R) (out : DenX lovField_9.xs → Option R) : Option R := bif decide (h2 ≤ h6) then bif decide (h7.length ≤ 4294967296) then bif (↑(spHere h7 h2).length : Int) == 0 then out (.ret ((), ((false, ()), ()))) else next (IntKind.i64.wrap (h2 + 1)) (h3) (h4) (h5) (h6) (h7) else none else out (.pan (.ret ((), ((), ((h3, (h4, (h5, (h6, (h7, ()))))), ())))))
def itvField_9 (n : Nat) (h2 : Int) (h3 : List Int) (h4 : Int) (h5 : Int) (h6 : Int) (h7 : List (Fd)) : Option (DenX lovField_9.xs) := lpN tt hdvField dr lpvField 0 Go.Proofs.Tryz.f203 (topL Go.Proofs.Tryz.f203 0) n (lovField_9.st.mk' ((h2, ()), ((h3, (h4, (h5, (h6, (h7, ()))))), ()))) (decX lovField_9.xs)
theorem slvField_9 (n : Nat) (h2 : Int) (h3 : List Int) (h4 : Int) (h5 : Int) (h6 : Int) (h7 : List (Fd)) : itvField_9 (n + 1) h2 h3 h4 h5 h6 h7 = stepvField_9 h2 h3 h4 h5 h6 h7 (itvField_9 n) some := by kernel_rfl
theorem loopvField {ks : List Fd} (hl : ks.length ≤ 16) (nm : List Int) (a b c : Int) (hc : c ≤ 3) : ∀ (k : Nat) (v : Int), 0 ≤ v → v ≤ 4 → 4 < v + k →
    itvField_9 k v nm a b c ks = if spVers ks k v c = true then some (.pan (.ret ((), ((), ((nm, (a, (b, (c, (ks, ()))))), ()))))) else some (.ret ((), ((false, ()), ()))) := by
  intro k
  induction k with
  | zero => intro v h0 h1 h2; omega
  | succ k ih =>
    intro v h0 h1 h2
    rw [slvField_9]
    unfold stepvField_9
    rw [spVers]
    by_cases hv : v ≤ c
    · refine (bif_true (decide_eq_true hv) _ _).trans ?_
      refine (bif_true (decide_eq_true (by omega)) _ _).trans ?_
      rw [if_pos hv, wrap_i64 (n := v + 1) (by omega) (by omega)]
      by_cases h : (spHere ks v).length = 0
      · refine (bif_true (by simp [h]) _ _).trans ?_
        rw [if_pos h]; rfl
      · refine (bif_false (by simpa using h) _ _).trans ?_
        rw [if_neg h]
        exact ih (v + 1) (by omega) (by omega) (by omega)
    · refine (bif_false (decide_eq_false hv) _ _).trans ?_
      rw [if_neg hv]; rfl
def bodyvField (a0 : Fd) (a1 : Int) : Option iovField.Res := bif (↑(List.length a0.1.fst) : Int) == 0 then some (Out.ret ((false, ()), ())) else bif decide (a0.1.snd.snd.fst < 0) then some (Out.ret ((false, ()), ())) else bif decide (3 < a0.1.snd.snd.snd.fst) then some (Out.ret ((false, ()), ())) else bif decide (a0.1.snd.snd.snd.fst < a0.1.snd.snd.fst) then some (Out.ret ((false, ()), ())) else bif decide (a0.1.snd.fst < 1) then some (Out.ret ((false, ()), ())) else bif decide (10 < a0.1.snd.fst) then some (Out.ret ((false, ()), ())) else bif decide (a0.1.snd.fst < 9) then some (Out.ret (((↑a0.2.length : Int) == 0, ()), ())) else bif decide (2 * spFws a0.2 + 2 ≤ spFuel) && (decide (0 ≤ IntKind.i64.wrap (a1 + 1)) && decide (IntKind.i64.wrap (a1 + 1) ≤ 1000)) then bif !spListOk (IntKind.i64.wrap (a1 + 1)) a0.2 then some (Out.ret ((false, ()), ())) else (FvField_9 ((a0.1.snd.snd.fst, ()), ((a0.1.fst, (a0.1.snd.fst, (a0.1.snd.snd.fst, (a0.1.snd.snd.snd.fst, (a0.2, ()))))), ()))).run fun y => match y with | .ret ((), ((x20, ()), ())) => (some (Out.ret ((x20, ()), ()))) | .pan (.ret ((), ((), (x21, x22, x23, x24, x25, ()), ()))) => (bif x22 == 10 then some (Out.ret ((true, ()), ())) else some (Out.ret (((↑x25.length : Int) == 1, ()), ()))) else none
theorem runvField (a0 : Fd) (a1 : Int) : Io.run tt hdvField dr lpvField iovField Go.Proofs.Tryz.f203 ((a0, a1, ()), ()) = bodyvField a0 a1 := by kernel_rfl
theorem okvFieldS (rvList : HcOk prog 196 (ioHd iovList (FvListN spFuel))) : HcOk prog 203 (ioHd iovField (FvFieldN (spFuel + 1))) := by
  refine fn_sound (n := 400) hm (cs := csvField) (.cons rvList (.cons oktHere .nil)) (lp := lpvField) (fn := Go.Proofs.Tryz.f203) (by kernel_rfl) (by kernel_rfl) (by kernel_rfl) iovField (.step (h0 := loHd lovField_9 FvField_9) (by kernel_rfl) (loop_sound (n := 400) hm (cs := csvField) (.cons rvList (.cons oktHere .nil)) (lp := lpvField) (fn := Go.Proofs.Tryz.f203) (.done (by kernel_rfl)) lovField_9 FvField_9 ?_) (.done (by kernel_rfl))) (FvFieldN (spFuel + 1)) ?_
  · rintro ⟨⟨(v : Int), ⟨⟩⟩, ⟨⟨(nm : List Int), (a : Int), (b : Int), (c : Int), (ks : List Fd), ⟨⟩⟩, ⟨⟩⟩⟩ y hw hy
    obtain ⟨hg, hy⟩ := Tr.guard hy
    simp only [Bool.and_eq_true, decide_eq_true_eq] at hg
    obtain ⟨⟨⟨h1, h4⟩, h2⟩, h3⟩ := hg
    have h1 : 0 ≤ v := h1
    have h4 : v ≤ 4 := h4
    have h2 : c ≤ 3 := h2
    have h3 : ks.length ≤ 16 := h3
    refine ⟨5, (loopvField h3 nm a b c h2 5 v h1 h4 (by omega)).trans ?_⟩
    rw [← hy]
    by_cases h : spVers ks 5 v c = true
    · rw [if_pos h]; exact (bif_true h _ _).symm
    · rw [if_neg h]; exact (bif_false (by simpa using h) _ _).symm
  · rintro ⟨⟨(f : Fd), (d : Int), ⟨⟩⟩, ⟨⟩⟩ out hw ho
    obtain ⟨hg, ho⟩ := Tr.guard ho
    simp only [Bool.and_eq_true, decide_eq_true_eq] at hg
    obtain ⟨hk, hd1, hd2⟩ := hg
    have hk : 2 * spFw f + 1 ≤ spFuel + 1 := hk
    have hd1 : 0 ≤ d := hd1
    have hd2 : d ≤ 999 := hd2
    cases ho
    refine (runvField f d).trans ?_
    unfold bodyvField
    show _ = some (Out.ret ((spFieldOk d f, ()), ()))
    obtain ⟨⟨(nm : List Int), (k' : Int), (lo : Int), (hi : Int), ⟨⟩⟩, (ks : List Fd)⟩ := f
    have hwf := spFw_eq (Tre.mk (nm, (k', (lo, (hi, ())))) ks)
    have hwf : spFw (Tre.mk (nm, (k', (lo, (hi, ())))) ks) = 1 + spFws ks := hwf
    have hk : 2 * (1 + spFws ks) + 1 ≤ spFuel + 1 := by rw [← hwf]; exact hk
    rw [spFieldOk, wrap_i64 (n := d + 1) (by omega) (by omega)]
    simp only
    by_cases h1 : List.length nm = 0
    · rw [if_pos h1]
      exact bif_true (by simp [h1]) _ _
    rw [if_neg h1]
    refine (bif_false (by simpa using h1) _ _).trans ?_
    by_cases h2 : lo < (0 : Int)
    · rw [if_pos h2]
      exact bif_true (decide_eq_true h2) _ _
    rw [if_neg h2]
    refine (bif_false (decide_eq_false h2) _ _).trans ?_
    by_cases h3 : (3 : Int) < hi
    · rw [if_pos h3]
      exact bif_true (decide_eq_true h3) _ _
    rw [if_neg h3]
    refine (bif_false (decide_eq_false h3) _ _).trans ?_
    by_cases h4 : (hi : Int) < lo
    · rw [if_pos h4]
      exact bif_true (decide_eq_true h4) _ _
    rw [if_neg h4]
    refine (bif_false (decide_eq_false h4) _ _).trans ?_
    by_cases h5 : k' < (1 : Int)
    · rw [if_pos h5]
      exact bif_true (decide_eq_true h5) _ _
    rw [if_neg h5]
    refine (bif_false (decide_eq_false h5) _ _).trans ?_
    by_cases h6 : (10 : Int) < k'
    · rw [if_pos h6]
      exact bif_true (decide_eq_true h6) _ _
    rw [if_neg h6]
    refine (bif_false (decide_eq_false h6) _ _).trans ?_
    by_cases h7 : k' < (9 : Int)
    · rw [if_pos h7]
      refine (bif_true (decide_eq_true h7) _ _).trans ?_
      by_cases h8 : ks.length = 0
      · rw [if_pos h8, h8]; rfl
      · rw [if_neg h8]
        exact congrArg (fun b : Bool => some (Out.ret ((b, ()), ()))) (by simpa using h8)
    rw [if_neg h7]
    refine (bif_false (decide_eq_false h7) _ _).trans ?_
    refine (bif_true (show (decide (2 * spFws ks + 2 ≤ spFuel) && (decide ((0 : Int) ≤ d + 1) && decide (d + 1 ≤ 1000))) = true by simp; omega) _ _).trans ?_
    by_cases h8 : spListOk (d + 1) ks = false
    · rw [if_pos h8]
      exact bif_true (by rw [h8]; rfl) _ _
    rw [if_neg h8]
    refine (bif_false (by simpa using h8) _ _).trans ?_
    have h8 : spListOk (d + 1) ks = true := by simpa using h8
    have hl : ks.length ≤ 16 := by
      rw [spListOk] at h8
      split at h8
      · cases h8
      · split at h8
        · cases h8
        · omega
    have c1 : (((decide ((0 : Int) ≤ lo) && decide (lo ≤ 4)) && decide (hi ≤ (3 : Int))) && decide (ks.length ≤ 16)) = true := by simp [hl]; omega
    refine (bif_true c1 _ _).trans ?_
    by_cases h9 : spVers ks 5 lo hi = true
    · refine (bif_true h9 _ _).trans ?_
      rw [if_neg (by rw [h9]; decide)]
      show (bif k' == 10 then _ else _) = _
      by_cases h10 : k' = 10
      · rw [if_pos h10]
        exact bif_true (by simpa using h10) _ _
      · rw [if_neg h10]
        refine (bif_false (by simpa using h10) _ _).trans ?_
        by_cases h11 : ks.length = 1
        · rw [if_pos h11]
          exact congrArg (fun b : Bool => some (Out.ret ((b, ()), ()))) (show ((ks.length : Int) == 1) = true by rw [h11]; rfl)
        · rw [if_neg h11]
          exact congrArg (fun b : Bool => some (Out.ret ((b, ()), ()))) (show ((ks.length : Int) == 1) = false by simp; omega)
    · have h9 : spVers ks 5 lo hi = false := by simpa using h9
      refine (bif_false h9 _ _).trans ?_
      rw [if_pos h9]
      rfl
end
theorem okvLBoth (n : Nat) : HcOk prog 196 (ioHd iovList (FvListN n)) ∧ HcOk prog 203 (ioHd iovField (FvFieldN n)) := by
  induction n with
  | zero => 
    refine ⟨HcOk.none (fn := Go.Proofs.Tryz.f196) (by kernel_rfl) (by kernel_rfl) (by kernel_rfl) _ _ fun d out h => ?_, HcOk.none (fn := Go.Proofs.Tryz.f203) (by kernel_rfl) (by kernel_rfl) (by kernel_rfl) _ _ fun d out h => ?_⟩
    · cases h
    · cases h
  | succ n ih =>
    have h1 := @okvListS ⟨⟨n⟩⟩ (by rw [FuT.val]; exact ih.2)
    have h2 := @okvFieldS ⟨⟨n⟩⟩ (by rw [FuT.val]; exact ih.1)
    rw [FuT.val] at h1 h2
    exact ⟨h1, h2⟩
theorem okvList : HcOk prog 196 (ioHd iovList FvList) := by
  refine HcOk.lim (fun n => (okvLBoth n).1) fun d => ⟨2 * spFws d.1.1 + 2, fun out h => ?_⟩
  obtain ⟨hg, h⟩ := Tr.guard h
  exact (bif_true (by rw [hg]; simp) _ _).trans h
abbrev iovCheck : Io := ⟨[dFlds], [], [], [dI], none⟩
def spChk (l : List Fd) : Int := if spListOk 1 l = true then 0 else 100
def FvCheck (d : iovCheck.In) : Tr iovCheck.Res := .ret (.ret ((spChk d.1.1, ()), ()))
abbrev csvCheck : List (Nat × Hc) := [(196, ioHd iovList FvList)]
def hdvCheck : Hd := hdT csvCheck
def lpvCheck : Lp := lpT []
def bodyvCheck (a0 : List tFld.den) : Option iovCheck.Res := bif !spListOk 1 a0 then some (Out.ret ((100, ()), ())) else some (Out.ret ((0, ()), ()))
theorem runvCheck (a0 : List tFld.den) : Io.run tt hdvCheck dr lpvCheck iovCheck Go.Proofs.Tryz.f186 ((a0, ()), ()) = bodyvCheck a0 := by kernel_rfl
theorem okvCheck : HcOk prog 186 (ioHd iovCheck FvCheck) := by
  refine fn_sound (n := 400) hm (cs := csvCheck) (.cons okvList .nil) (lp := lpvCheck) (fn := Go.Proofs.Tryz.f186) (by kernel_rfl) (by kernel_rfl) (by kernel_rfl) iovCheck (.done (by kernel_rfl)) FvCheck ?_
  rintro ⟨⟨(fs : List Fd), ⟨⟩⟩, ⟨⟩⟩ out hw ho
  cases ho
  refine (runvCheck fs).trans ?_
  unfold bodyvCheck
  show _ = some (Out.ret ((spChk fs, ()), ()))
  unfold spChk
  by_cases h : spListOk 1 fs = true
  · rw [if_pos h]
    exact bif_false (by rw [h]; rfl) _ _
  · rw [if_neg h]
    exact bif_true (by simpa using h) _ _
abbrev iovBegin : Io := ⟨[dFlds, dI], [], [], [dI], none⟩
def spBeg (l : List Fd) (v : Int) : Int := if v < 0 ∨ 3 < v then 8 else spChk l
def FvBegin (d : iovBegin.In) : Tr iovBegin.Res := .ret (.ret ((spBeg d.1.1 d.1.2.1, ()), ()))
abbrev csvBegin : List (Nat × Hc) := [(186, ioHd iovCheck FvCheck)]
def hdvBegin : Hd := hdT csvBegin
def lpvBegin : Lp := lpT []
def bodyvBegin (a0 : List tFld.den) (a1 : Int) : Option iovBegin.Res := bif decide (a1 < 0) then some (Out.ret ((8, ()), ())) else bif decide (3 < a1) then some (Out.ret ((8, ()), ())) else some (Out.ret ((spChk a0, ()), ()))
theorem runvBegin (a0 : List tFld.den) (a1 : Int) : Io.run tt hdvBegin dr lpvBegin iovBegin Go.Proofs.Tryz.f172 ((a0, a1, ()), ()) = bodyvBegin a0 a1 := by kernel_rfl
theorem okvBegin : HcOk prog 172 (ioHd iovBegin FvBegin) := by
  refine fn_sound (n := 400) hm (cs := csvBegin) (.cons okvCheck .nil) (lp := lpvBegin) (fn := Go.Proofs.Tryz.f172) (by kernel_rfl) (by kernel_rfl) (by kernel_rfl) iovBegin (.done (by kernel_rfl)) FvBegin ?_
  rintro ⟨⟨(fs : List Fd), (v : Int), ⟨⟩⟩, ⟨⟩⟩ out hw ho
  cases ho
  refine (runvBegin fs v).trans ?_
  unfold bodyvBegin
  show _ = some (Out.ret ((spBeg fs v, ()), ()))
  unfold spBeg
  by_cases h : v < 0
  · rw [if_pos (.inl h)]
    exact bif_true (decide_eq_true h) _ _
  · refine (bif_false (decide_eq_false h) _ _).trans ?_
    by_cases h2 : 3 < v
    · rw [if_pos (.inr h2)]
      exact bif_true (decide_eq_true h2) _ _
    · rw [if_neg (by omega)]
      exact bif_false (decide_eq_false h2) _ _
theorem spArrs_cons (k : Fd) (ks : List Fd) : spArrs (k :: ks) = (spArr k && spArrs ks) := by unfold spArrs spArr; rfl
theorem spField_arr : ∀ (N : Nat), (∀ (d : Int) (f : Fd), spFw f ≤ N → spFieldOk d f = true → spArr f = true) ∧ (∀ (d : Int) (ks : List Fd), spFws ks < N → spListOk d ks = true → spArrs ks = true ∧ 1 ≤ ks.length ∧ ks.length ≤ 16) := by
  intro N
  induction N with
  | zero => exact ⟨fun d f h => by have := spFw_eq f; omega, fun d ks h => by omega⟩
  | succ N ih =>
    have hl : ∀ (d : Int) (ks : List Fd), spFws ks < N + 1 → spListOk d ks = true → spArrs ks = true ∧ 1 ≤ ks.length ∧ ks.length ≤ 16 := by
      intro d ks hN h
      rw [spListOk] at h
      split at h
      · cases h
      split at h
      · cases h
      split at h
      · cases h
      refine ⟨?_, by omega, by omega⟩
      simp only [Bool.and_eq_true] at h
      have key : ∀ l : List Fd, (∀ k ∈ l, spFw k ≤ N) → spFieldsOk d l = true → spArrs l = true := by
        intro l
        induction l with
        | nil => intro _ _; unfold spArrs; rfl
        | cons k l ihl =>
          intro h1 h2
          rw [spFieldsOk] at h2
          simp only [Bool.and_eq_true] at h2
          rw [spArrs_cons, ih.1 d k (h1 k (by simp)) h2.1, ihl (fun k hk => h1 k (List.mem_cons_of_mem _ hk)) h2.2]; rfl
      exact key ks (fun k hk => by have := spFw_mem hk; omega) h.2
    refine ⟨?_, hl⟩
    rintro d ⟨⟨(nm : List Int), (k' : Int), (lo : Int), (hi : Int), ⟨⟩⟩, (ks : List Fd)⟩ hN h
    rw [spArr_eq]
    have hwf := spFw_eq (Tre.mk (nm, (k', (lo, (hi, ())))) ks)
    have hwf : spFw (Tre.mk (nm, (k', (lo, (hi, ())))) ks) = 1 + spFws ks := hwf
    have hN : 1 + spFws ks ≤ N + 1 := by rw [← hwf]; exact hN
    show ((((decide (k' ≠ 9) || decide (ks.length ≠ 0)) && decide (ks.length ≤ 16)) && spArrs ks)) = true
    rw [spFieldOk] at h
    by_cases c0 : List.length nm = 0
    · rw [if_pos c0] at h; cases h
    rw [if_neg c0] at h
    by_cases c1 : lo < 0
    · rw [if_pos c1] at h; cases h
    rw [if_neg c1] at h
    by_cases c2 : 3 < hi
    · rw [if_pos c2] at h; cases h
    rw [if_neg c2] at h
    by_cases c3 : hi < lo
    · rw [if_pos c3] at h; cases h
    rw [if_neg c3] at h
    by_cases c4 : k' < 1
    · rw [if_pos c4] at h; cases h
    rw [if_neg c4] at h
    by_cases c5 : 10 < k'
    · rw [if_pos c5] at h; cases h
    rw [if_neg c5] at h
    by_cases hk9 : k' < 9
    · rw [if_pos hk9] at h
      by_cases h0 : ks.length = 0
      · have : ks = [] := List.eq_nil_of_length_eq_zero h0
        subst this
        have e : decide (k' ≠ 9) = true := decide_eq_true (by omega)
        have : spArrs [] = true := by unfold spArrs; rfl
        rw [e, this]; rfl
      · rw [if_neg h0] at h; cases h
    rw [if_neg hk9] at h
    by_cases hlk : spListOk (d + 1) ks = false
    · rw [if_pos hlk] at h; cases h
    obtain ⟨h1, h2, h3⟩ := hl (d + 1) ks (by omega) (by simpa using hlk)
    have e : decide (ks.length ≠ 0) = true := decide_eq_true (by omega)
    have e2 : decide (ks.length ≤ 16) = true := decide_eq_true h3
    rw [h1, e, e2, Bool.or_true]; rfl
theorem spBeg_arr {l : List Fd} {v : Int} (h : spBeg l v = 0) : spArrs l = true ∧ l.length ≤ 16 := by
  unfold spBeg at h
  split at h
  · omega
  · unfold spChk at h
    split at h
    · rename_i hl
      have := (spField_arr (spFws l + 1)).2 1 l (by omega) hl
      exact ⟨this.1, this.2.2⟩
    · omega
abbrev iovEncode : Io := ⟨[dFlds, dI, dNode], [], [], [dL, dI], none⟩
def spEnc (l : List Fd) (v : Int) (n : Nd) : List Int × Int := if spBeg l v ≠ 0 then ([], spBeg l v) else if spShN 10 n = false then ([], 101) else if (spVParts l v n).2 ≠ 0 then ([], (spVParts l v n).2) else if 130048 < (spVParts l v n).1.length then ([], 4) else ((spVParts l v n).1, 0)
def FvEncode (d : iovEncode.In) : Tr iovEncode.Res := .ite (decide (8 * spWt d.1.2.2.1 ≤ 4294967296)) (.ret (.ret (((spEnc d.1.1 d.1.2.1 d.1.2.2.1).1, ((spEnc d.1.1 d.1.2.1 d.1.2.2.1).2, ())), ()))) .no
abbrev csvEncode : List (Nat × Hc) := [(172, ioHd iovBegin FvBegin), (173, ioHd iotShape FtShape), (174, ioHd iovParts FvParts)]
def hdvEncode : Hd := hdT csvEncode
def lpvEncode : Lp := lpT []
def bodyvEncode (a0 : List tFld.den) (a1 : Int) (a2 : Nd) : Option iovEncode.Res := bif spBeg a0 a1 != 0 then some (Out.ret (([], spBeg a0 a1, ()), ())) else bif !spShN 10 (Tre.mk a2.1 a2.2) then some (Out.ret (([], 101, ()), ())) else bif spArrs a0 && (decide (8 * spWt (Tre.mk a2.1 a2.2) ≤ 4294967296) && decide (a0.length ≤ 4294967296)) then bif (spVParts a0 a1 (Tre.mk a2.1 a2.2)).snd != 0 then some (Out.ret (([], (spVParts a0 a1 (Tre.mk a2.1 a2.2)).snd, ()), ())) else bif decide (130048 < (↑(spVParts a0 a1 (Tre.mk a2.1 a2.2)).fst.length : Int)) then some (Out.ret (([], 4, ()), ())) else some (Out.ret (((spVParts a0 a1 (Tre.mk a2.1 a2.2)).fst, 0, ()), ())) else none
theorem runvEncode (a0 : List tFld.den) (a1 : Int) (a2 : Nd) : Io.run tt hdvEncode dr lpvEncode iovEncode Go.Proofs.Tryz.f136 ((a0, a1, a2, ()), ()) = bodyvEncode a0 a1 a2 := by kernel_rfl
theorem okvEncode : HcOk prog 136 (ioHd iovEncode FvEncode) := by
  refine fn_sound (n := 400) hm (cs := csvEncode) (.cons okvBegin (.cons oktShape (.cons okvParts .nil))) (lp := lpvEncode) (fn := Go.Proofs.Tryz.f136) (by kernel_rfl) (by kernel_rfl) (by kernel_rfl) iovEncode (.done (by kernel_rfl)) FvEncode ?_
  rintro ⟨⟨(fs : List Fd), (v : Int), (n : Nd), ⟨⟩⟩, ⟨⟩⟩ out hw ho
  obtain ⟨hg, ho⟩ := Tr.guard ho
  have hb : 8 * spWt n ≤ 4294967296 := of_decide_eq_true hg
  cases ho
  refine (runvEncode fs v n).trans ?_
  unfold bodyvEncode
  show _ = some (Out.ret (((spEnc fs v n).1, ((spEnc fs v n).2, ())), ()))
  unfold spEnc
  by_cases h1 : spBeg fs v = 0
  · rw [if_neg (by simpa using h1)]
    refine (bif_false (by rw [h1]; rfl) _ _).trans ?_
    obtain ⟨ha, hl⟩ := spBeg_arr h1
    obtain ⟨nl, nk⟩ := n
    by_cases h2 : spShN 10 (Tre.mk nl nk) = false
    · rw [if_pos h2]
      exact bif_true (show (!spShN 10 (Tre.mk nl nk)) = true by rw [h2]; rfl) _ _
    rw [if_neg h2]
    refine (bif_false (show (!spShN 10 (Tre.mk nl nk)) = false by simpa using h2) _ _).trans ?_
    refine (bif_true (show (spArrs fs && (decide (8 * spWt (Tre.mk nl nk) ≤ 4294967296) && decide (fs.length ≤ 4294967296))) = true by rw [ha]; simp; omega) _ _).trans ?_
    by_cases h3 : (spVParts fs v (Tre.mk nl nk)).2 = 0
    · rw [if_neg (by simpa using h3)]
      refine (bif_false (show ((spVParts fs v (Tre.mk nl nk)).2 != 0) = false by rw [h3]; rfl) _ _).trans ?_
      by_cases h4 : 130048 < (spVParts fs v (Tre.mk nl nk)).1.length
      · rw [if_pos h4]
        exact bif_true (decide_eq_true (show (130048 : Int) < ((spVParts fs v (Tre.mk nl nk)).1.length : Int) by omega)) _ _
      · rw [if_neg h4]
        exact bif_false (decide_eq_false (show ¬ (130048 : Int) < ((spVParts fs v (Tre.mk nl nk)).1.length : Int) by omega)) _ _
    · rw [if_pos h3]
      exact bif_true (by simpa using h3) _ _
  · rw [if_pos h1]
    exact bif_true (by simpa using h1) _ _
end
end Go.Proofs.YtjpeefegeobgfaaGreat.Sym
namespace Go.Proofs.YtjpeefegeobgfaaGreat.Sym
open Go
set_option linter.unusedSimpArgs false
set_option linter.unusedVariables false
noncomputable section
mutual
def spCut (f : Fd) (v : Int) : Nd → Nd × Bool
  | .mk a ks => if f.lab.2.1 = 9 then (.mk (9, (0, (false, (([] : List Int), ())))) (spCItems (f.kids.headD f) v ks).1, (spCItems (f.kids.headD f) v ks).2)
    else if f.lab.2.1 = 10 then (.mk (10, (0, (false, (([] : List Int), ())))) (spCZip v f.kids ks).1, (spCZip v f.kids ks).2) else (.mk a ks, true)
termination_by n => (SizeOf.sizeOf n, 0)
def spCItems (f : Fd) (v : Int) : List Nd → List Nd × Bool
  | [] => ([], true)
  | k :: ks => ((spCut f v k).1 :: (spCItems f v ks).1, (spCut f v k).2 && (spCItems f v ks).2)
termination_by l => (SizeOf.sizeOf l, 0)
def spCZip (v : Int) : List Fd → List Nd → List Nd × Bool
  | f :: fs, k :: ks => if spHas f v = true then ((spCut f v k).1 :: (spCZip v fs ks).1, (spCut f v k).2 && (spCZip v fs ks).2) else ((spCZip v fs ks).1, spZeroN k && (spCZip v fs ks).2)
  | _, _ => ([], true)
termination_by fs l => (SizeOf.sizeOf l, 0)
end
mutual
def spFill (f : Fd) (v : Int) : Nd → Nd
  | .mk a ks => if f.lab.2.1 = 9 then .mk (9, (0, (false, (([] : List Int), ())))) (spFItems (f.kids.headD f) v ks)
    else if f.lab.2.1 = 10 then .mk (10, (0, (false, (([] : List Int), ())))) (spFZip v f.kids ks) else .mk a ks
termination_by n => (SizeOf.sizeOf n, 0, 0)
def spFItems (f : Fd) (v : Int) : List Nd → List Nd
  | [] => []
  | k :: ks => spFill f v k :: spFItems f v ks
termination_by l => (SizeOf.sizeOf l, 0, 0)
def spFZip (v : Int) : List Fd → List Nd → List Nd
  | [], _ => []
  | f :: fs, [] => .mk (f.lab.2.1, (0, (false, (([] : List Int), ())))) [] :: spFZip v fs []
  | f :: fs, k :: ks => if spHas f v = true then spFill f v k :: spFZip v fs ks else .mk (f.lab.2.1, (0, (false, (([] : List Int), ())))) [] :: spFZip v fs (k :: ks)
termination_by fs l => (SizeOf.sizeOf l, 0, fs.length)
end
abbrev iovCut : Io := ⟨[dFld, dI, dNode], [], [], [dNode, dB], none⟩
def FvCutN (n : Nat) (d : iovCut.In) : Tr iovCut.Res := .ite (decide (spWt d.1.2.2.1 < n) && (spArr d.1.1 && decide (spWt d.1.2.2.1 ≤ 4294967296))) (.ret (.ret (((spCut d.1.1 d.1.2.1 d.1.2.2.1).1, ((spCut d.1.1 d.1.2.1 d.1.2.2.1).2, ())), ()))) .no
def FvCut (d : iovCut.In) : Tr iovCut.Res := .ite (spArr d.1.1 && decide (spWt d.1.2.2.1 ≤ 4294967296)) (.ret (.ret (((spCut d.1.1 d.1.2.1 d.1.2.2.1).1, ((spCut d.1.1 d.1.2.1 d.1.2.2.1).2, ())), ()))) .no
section
variable [Inhabited FuT]
abbrev csvCut : List (Nat × Hc) := [(135, ioHd iovCut (FvCutN spFuel)), (170, ioHd iotHere1 FtHere1), (171, ioHd iotZero FtZero)]
def hdvCut : Hd := hdT csvCut
abbrev lovCut_6 : Lo := ⟨⟨[.any, .one (.hol (.int IntKind.i64)), .any, .one (.ptr 3 0), .any, .one (.ptr 5 0), .one (.ptr 6 0), .any, .one (.onl 98 (((Ty.int IntKind.i64).prod ((Ty.int IntKind.i64).prod (Ty.bool.prod ((Ty.sl 5 (Ty.int IntKind.u8)).prod Ty.unit)))).tree 98) 17), .one (.hol .bool), .one (.hol (.int IntKind.i64)), .any, .any, .any, .any, .any, .any, .any, .any, .any, .any, .any, .any, .any, .any, .any, .any, .any, .any, .any, .any, .any, .any, .any, .any, .any, .any, .any, .any, .any, .any, .any, .any, .any, .any, .any, .any, .any, .any, .any, .any, .any, .any, .any, .any, .any, .any, .any, .any, .any, .any, .any, .any, .any, .any, .any, .any, .any, .any, .any, .any, .any, .any, .any, .any, .any, .any, .any, .any, .any, .any, .any, .any, .any, .any, .any, .any, .any, .any, .any, .any, .any, .any, .any, .any, .any, .any, .any, .any, .any, .any, .any, .any, .any, .any, .any, .any, .any, .any, .any, .any, .any], [none, none, none, some [.hol .str, .hol (.int IntKind.i64), .hol (.int IntKind.i64), .hol (.int IntKind.i64), .hol (.sl 213 tFld)], none, some [.hol (.int IntKind.i64), .hol (.int IntKind.i64), .hol .bool, .hol (.sl 5 (Ty.int IntKind.u8)), .hol (.sl 98 (((Ty.int IntKind.i64).prod ((Ty.int IntKind.i64).prod (Ty.bool.prod ((Ty.sl 5 (Ty.int IntKind.u8)).prod Ty.unit)))).tree 98))], some [.hol (.int IntKind.i64), .hol (.int IntKind.i64), .hol .bool, .onl 5 (Ty.int IntKind.u8) 3080, .onl 98 (((Ty.int IntKind.i64).prod ((Ty.int IntKind.i64).prod (Ty.bool.prod ((Ty.sl 5 (Ty.int IntKind.u8)).prod Ty.unit)))).tree 98) 3082]]⟩, [(.exit 0, ⟨[.any, .any, .any, .any, .any, .any, .one (.ptr 6 0), .any, .one (.onl 98 (((Ty.int IntKind.i64).prod ((Ty.int IntKind.i64).prod (Ty.bool.prod ((Ty.sl 5 (Ty.int IntKind.u8)).prod Ty.unit)))).tree 98) 17), .one (.hol .bool), .any, .any, .any, .any, .any, .any, .any, .any, .any, .any, .any, .any, .any, .any, .any, .any, .any, .any, .any, .any, .any, .any, .any, .any, .any, .any, .any, .any, .any, .any, .any, .any, .any, .any, .any, .any, .any, .any, .any, .any, .any, .any, .any, .any, .any, .any, .any, .any, .any, .any, .any, .any, .any, .any, .any, .any, .any, .any, .any, .any, .any, .any, .any, .any, .any, .any, .any, .any, .any, .any, .any, .any, .any, .any, .any, .any, .any, .any, .any, .any, .any, .any, .any, .any, .any, .any, .any, .any, .any, .any, .any, .any, .any, .any, .any, .any, .any, .any, .any, .any, .any, .any], [none, none, none, none, none, none, some [.hol (.int IntKind.i64), .hol (.int IntKind.i64), .hol .bool, .onl 5 (Ty.int IntKind.u8) 3080, .onl 98 (((Ty.int IntKind.i64).prod ((Ty.int IntKind.i64).prod (Ty.bool.prod ((Ty.sl 5 (Ty.int IntKind.u8)).prod Ty.unit)))).tree 98) 3082]]⟩)]⟩
-- FvCut_6 : lovCut_6.st.den → Tr (DenX lovCut_6.xs) | ((h3, (h4, (h5, (h6, ())))), ((h7, (h8, (h9, (h10, (h11, ()))))), ((h12, (h13, (h14, (h15, (h16, ()))))), ((h17, (h18, (h19, (h20, (h21, ()))))), ()))))
abbrev lovCut_15 : Lo := ⟨⟨[.any, .one (.hol (.int IntKind.i64)), .any, .one (.ptr 3 0), .any, .one (.ptr 5 0), .one (.ptr 6 0), .any, .one (.onl 98 (((Ty.int IntKind.i64).prod ((Ty.int IntKind.i64).prod (Ty.bool.prod ((Ty.sl 5 (Ty.int IntKind.u8)).prod Ty.unit)))).tree 98) 17), .one (.hol .bool), .any, .any, .any, .one (.hol (.int IntKind.i64)), .any, .any, .any, .any, .any, .any, .any, .any, .any, .any, .any, .any, .any, .any, .any, .any, .any, .any, .any, .any, .any, .any, .any, .any, .any, .any, .any, .any, .any, .any, .any, .any, .any, .any, .any, .any, .any, .any, .any, .any, .any, .any, .any, .any, .any, .any, .any, .any, .any, .any, .any, .any, .any, .any, .any, .any, .any, .any, .any, .any, .any, .any, .any, .any, .any, .any, .any, .any, .any, .any, .any, .any, .any, .any, .any, .any, .any, .any, .any, .any, .any, .any, .any, .any, .any, .any, .any, .any, .any, .any, .any, .any, .any, .any, .any, .any, .any, .any], [none, none, none, some [.hol .str, .hol (.int IntKind.i64), .hol (.int IntKind.i64), .hol (.int IntKind.i64), .hol (.sl 213 tFld)], none, some [.hol (.int IntKind.i64), .hol (.int IntKind.i64), .hol .bool, .hol (.sl 5 (Ty.int IntKind.u8)), .hol (.sl 98 (((Ty.int IntKind.i64).prod ((Ty.int IntKind.i64).prod (Ty.bool.prod ((Ty.sl 5 (Ty.int IntKind.u8)).prod Ty.unit)))).tree 98))], some [.hol (.int IntKind.i64), .hol (.int IntKind.i64), .hol .bool, .onl 5 (Ty.int IntKind.u8) 3080, .onl 98 (((Ty.int IntKind.i64).prod ((Ty.int IntKind.i64).prod (Ty.bool.prod ((Ty.sl 5 (Ty.int IntKind.u8)).prod Ty.unit)))).tree 98) 3082]]⟩, [(.exit 2, ⟨[.any, .any, .any, .any, .any, .any, .one (.ptr 6 0), .any, .one (.onl 98 (((Ty.int IntKind.i64).prod ((Ty.int IntKind.i64).prod (Ty.bool.prod ((Ty.sl 5 (Ty.int IntKind.u8)).prod Ty.unit)))).tree 98) 17), .one (.hol .bool), .any, .any, .any, .any, .any, .any, .any, .any, .any, .any, .any, .any, .any, .any, .any, .any, .any, .any, .any, .any, .any, .any, .any, .any, .any, .any, .any, .any, .any, .any, .any, .any, .any, .any, .any, .any, .any, .any, .any, .any, .any, .any, .any, .any, .any, .any, .any, .any, .any, .any, .any, .any, .any, .any, .any, .any, .any, .any, .any, .any, .any, .any, .any, .any, .any, .any, .any, .any, .any, .any, .any, .any, .any, .any, .any, .any, .any, .any, .any, .any, .any, .any, .any, .any, .any, .any, .any, .any, .any, .any, .any, .any, .any, .any, .any, .any, .any, .any, .any, .any, .any, .any], [none, none, none, none, none, none, some [.hol (.int IntKind.i64), .hol (.int IntKind.i64), .hol .bool, .onl 5 (Ty.int IntKind.u8) 3080, .onl 98 (((Ty.int IntKind.i64).prod ((Ty.int IntKind.i64).prod (Ty.bool.prod ((Ty.sl 5 (Ty.int IntKind.u8)).prod Ty.unit)))).tree 98) 3082]]⟩)]⟩
-- FvCut_15 : lovCut_15.st.den → Tr (DenX lovCut_15.xs) | ((h74, (h75, (h76, (h77, ())))), ((h78, (h79, (h80, (h81, (h82, ()))))), ((h83, (h84, (h85, (h86, (h87, ()))))), ((h88, (h89, (h90, (h91, (h92, ()))))), ()))))
def FvCut_6 (d : lovCut_6.st.den) : Tr (DenX lovCut_6.xs) :=
  .ite (decide (d.1.2.2.2.1 = 0) && ((decide (d.1.2.1.length = 0) && d.1.2.2.1) && ((decide (d.2.1.2.2.2.2.1.length ≠ 0) && spArrs d.2.1.2.2.2.2.1) && (decide (spWts d.2.2.1.2.2.2.2.1 < spFuel) && decide (spWts d.2.2.1.2.2.2.2.1 ≤ 4294967296)))))
    (.ret (.ret ((), (((spCItems (d.2.1.2.2.2.2.1.headD (.mk ([], (0, (0, (0, ())))) [])) d.1.1 d.2.2.1.2.2.2.2.1).1, ((spCItems (d.2.1.2.2.2.2.1.headD (.mk ([], (0, (0, (0, ())))) [])) d.1.1 d.2.2.1.2.2.2.2.1).2, ())), (d.2.2.2.1, ()))))) .no
def FvCut_15 (d : lovCut_15.st.den) : Tr (DenX lovCut_15.xs) :=
  .ite (decide (d.1.2.2.2.1 = 0) && ((decide (d.1.2.1.length = 0) && d.1.2.2.1) && (spArrs d.2.1.2.2.2.2.1 && (decide (spWts d.2.2.1.2.2.2.2.1 < spFuel) && decide (spWts d.2.2.1.2.2.2.2.1 ≤ 4294967296)))))
    (.ret (.ret ((), (((spCZip d.1.1 d.2.1.2.2.2.2.1 d.2.2.1.2.2.2.2.1).1, ((spCZip d.1.1 d.2.1.2.2.2.2.1 d.2.2.1.2.2.2.2.1).2, ())), (d.2.2.2.1, ()))))) .no
def lpvCut : Lp := lpT [(6, loHd lovCut_6 FvCut_6), (15, loHd lovCut_15 FvCut_15)]
def stepvCut_6 {R : Type} (h3 : Int) (h4 : List (((Ty.int IntKind.i64).prod ((Ty.int IntKind.i64).prod (Ty.bool.prod ((Ty.sl 5 (Ty.int IntKind.u8)).prod Ty.unit)))).tree 98).den) (h5 : Bool) (h6 : Int) (h7 : List Int) (h8 : Int) (h9 : Int) (h10 : Int) (h11 : List (Fd)) (h12 : Int) (h13 : Int) (h14 : Bool) (h15 : List Int) (h16 : List (Nd)) (h17 : Int) (h18 : Int) (h19 : Bool) (h20 : List Int) (h21 : List (((Ty.int IntKind.i64).prod ((Ty.int IntKind.i64).prod (Ty.bool.prod ((Ty.sl 5 (Ty.int IntKind.u8)).prod Ty.unit)))).tree 98).den) (next : Int → List (((Ty.int IntKind.i64).prod ((Ty.int IntKind.i64).prod (Ty.bool.prod ((Ty.sl 5 (Ty.int IntKind.u8)).prod Ty.unit)))).tree 98).den → Bool → Int → List Int → Int → Int → Int → List (Fd) → Int → Int → Bool → List Int → List (Nd) → Int → Int → Bool → List Int → List (((Ty.int IntKind.i64).prod ((Ty.int IntKind.i64).prod (Ty.bool.prod ((Ty.sl 5 (Ty.int IntKind.u8)).prod Ty.unit)))).tree 98).den → Option R) (out : DenX lovCut_6.xs → Option R) : Option R := bif decide (h6 < (↑h16.length : Int)) then bif decide (0 ≤ 0) && decide (0 < (↑h11.length : Int)) then bif decide (0 ≤ h6) && decide (h6 < (↑h16.length : Int)) then bif decide (spWt (Tre.mk (h16.getD h6.toNat (Tre.mk (0, 0, false, [], ()) [])).1 (h16.getD h6.toNat (Tre.mk (0, 0, false, [], ()) [])).2) < spFuel) && (spArr (Tre.mk (h11.getD (Int.toNat 0) (Tre.mk ([], 0, 0, 0, ()) [])).1 (h11.getD (Int.toNat 0) (Tre.mk ([], 0, 0, 0, ()) [])).2) && decide (spWt (Tre.mk (h16.getD h6.toNat (Tre.mk (0, 0, false, [], ()) [])).1 (h16.getD h6.toNat (Tre.mk (0, 0, false, [], ()) [])).2) ≤ 4294967296)) then bif decide (h4.length + 1 ≤ 4294967296) then bif h5 then next (h3) (h4 ++ [Tre.mk (spCut (Tre.mk (h11.getD (Int.toNat 0) (Tre.mk ([], 0, 0, 0, ()) [])).1 (h11.getD (Int.toNat 0) (Tre.mk ([], 0, 0, 0, ()) [])).2) h3 (Tre.mk (h16.getD h6.toNat (Tre.mk (0, 0, false, [], ()) [])).1 (h16.getD h6.toNat (Tre.mk (0, 0, false, [], ()) [])).2)).fst.1 (spCut (Tre.mk (h11.getD (Int.toNat 0) (Tre.mk ([], 0, 0, 0, ()) [])).1 (h11.getD (Int.toNat 0) (Tre.mk ([], 0, 0, 0, ()) [])).2) h3 (Tre.mk (h16.getD h6.toNat (Tre.mk (0, 0, false, [], ()) [])).1 (h16.getD h6.toNat (Tre.mk (0, 0, false, [], ()) [])).2)).fst.2]) ((spCut (Tre.mk (h11.getD (Int.toNat 0) (Tre.mk ([], 0, 0, 0, ()) [])).1 (h11.getD (Int.toNat 0) (Tre.mk ([], 0, 0, 0, ()) [])).2) h3 (Tre.mk (h16.getD h6.toNat (Tre.mk (0, 0, false, [], ()) [])).1 (h16.getD h6.toNat (Tre.mk (0, 0, false, [], ()) [])).2)).snd) (IntKind.i64.wrap (h6 + 1)) (h7) (h8) (h9) (h10) (h11) (h12) (h13) (h14) (h15) (h16) (h17) (h18) (h19) (h20) (h21) else next (h3) (h4 ++ [Tre.mk (spCut (Tre.mk (h11.getD (Int.toNat 0) (Tre.mk ([], 0, 0, 0, ()) [])).1 (h11.getD (Int.toNat 0) (Tre.mk ([], 0, 0, 0, ()) [])).2) h3 (Tre.mk (h16.getD h6.toNat (Tre.mk (0, 0, false, [], ()) [])).1 (h16.getD h6.toNat (Tre.mk (0, 0, false, [], ()) [])).2)).fst.1 (spCut (Tre.mk (h11.getD (Int.toNat 0) (Tre.mk ([], 0, 0, 0, ()) [])).1 (h11.getD (Int.toNat 0) (Tre.mk ([], 0, 0, 0, ()) [])).2) h3 (Tre.mk (h16.getD h6.toNat (Tre.mk (0, 0, false, [], ()) [])).1 (h16.getD h6.toNat (Tre.mk (0, 0, false, [], ()) [])).2)).fst.2]) (false) (IntKind.i64.wrap (h6 + 1)) (h7) (h8) (h9) (h10) (h11) (h12) (h13) (h14) (h15) (h16) (h17) (h18) (h19) (h20) (h21) else none else none else none else none else out (.ret ((), ((h4, (h5, ())), ((h17, (h18, (h19, (h20, (h21, ()))))), ()))))
def itvCut_6 (n : Nat) (h3 : Int) (h4 : List (((Ty.int IntKind.i64).prod ((Ty.int IntKind.i64).prod (Ty.bool.prod ((Ty.sl 5 (Ty.int IntKind.u8)).prod Ty.unit)))).tree 98).den) (h5 : Bool) (h6 : Int) (h7 : List Int) (h8 : Int) (h9 : Int) (h10 : Int) (h11 : List (Fd)) (h12 : Int) (h13 : Int) (h14 : Bool) (h15 : List Int) (h16 : List (Nd)) (h17 : Int) (h18 : Int) (h19 : Bool) (h20 : List Int) (h21 : List (((Ty.int IntKind.i64).prod ((Ty.int IntKind.i64).prod (Ty.bool.prod ((Ty.sl 5 (Ty.int IntKind.u8)).prod Ty.unit)))).tree 98).den) : Option (DenX lovCut_6.xs) := lpN tt hdvCut dr lpvCut 0 Go.Proofs.Tryz.f135 (topL Go.Proofs.Tryz.f135 0) n (lovCut_6.st.mk' ((h3, (h4, (h5, (h6, ())))), ((h7, (h8, (h9, (h10, (h11, ()))))), ((h12, (h13, (h14, (h15, (h16, ()))))), ((h17, (h18, (h19, (h20, (h21, ()))))), ()))))) (decX lovCut_6.xs)
theorem slvCut_6 (n : Nat) (h3 : Int) (h4 : List (((Ty.int IntKind.i64).prod ((Ty.int IntKind.i64).prod (Ty.bool.prod ((Ty.sl 5 (Ty.int IntKind.u8)).prod Ty.unit)))).tree 98).den) (h5 : Bool) (h6 : Int) (h7 : List Int) (h8 : Int) (h9 : Int) (h10 : Int) (h11 : List (Fd)) (h12 : Int) (h13 : Int) (h14 : Bool) (h15 : List Int) (h16 : List (Nd)) (h17 : Int) (h18 : Int) (h19 : Bool) (h20 : List Int) (h21 : List (((Ty.int IntKind.i64).prod ((Ty.int IntKind.i64).prod (Ty.bool.prod ((Ty.sl 5 (Ty.int IntKind.u8)).prod Ty.unit)))).tree 98).den) : itvCut_6 (n + 1) h3 h4 h5 h6 h7 h8 h9 h10 h11 h12 h13 h14 h15 h16 h17 h18 h19 h20 h21 = stepvCut_6 h3 h4 h5 h6 h7 h8 h9 h10 h11 h12 h13 h14 h15 h16 h17 h18 h19 h20 h21 (itvCut_6 n) some := by kernel_rfl
def stepvCut_15 {R : Type} (h74 : Int) (h75 : List (((Ty.int IntKind.i64).prod ((Ty.int IntKind.i64).prod (Ty.bool.prod ((Ty.sl 5 (Ty.int IntKind.u8)).prod Ty.unit)))).tree 98).den) (h76 : Bool) (h77 : Int) (h78 : List Int) (h79 : Int) (h80 : Int) (h81 : Int) (h82 : List (Fd)) (h83 : Int) (h84 : Int) (h85 : Bool) (h86 : List Int) (h87 : List (Nd)) (h88 : Int) (h89 : Int) (h90 : Bool) (h91 : List Int) (h92 : List (((Ty.int IntKind.i64).prod ((Ty.int IntKind.i64).prod (Ty.bool.prod ((Ty.sl 5 (Ty.int IntKind.u8)).prod Ty.unit)))).tree 98).den) (next : Int → List (((Ty.int IntKind.i64).prod ((Ty.int IntKind.i64).prod (Ty.bool.prod ((Ty.sl 5 (Ty.int IntKind.u8)).prod Ty.unit)))).tree 98).den → Bool → Int → List Int → Int → Int → Int → List (Fd) → Int → Int → Bool → List Int → List (Nd) → Int → Int → Bool → List Int → List (((Ty.int IntKind.i64).prod ((Ty.int IntKind.i64).prod (Ty.bool.prod ((Ty.sl 5 (Ty.int IntKind.u8)).prod Ty.unit)))).tree 98).den → Option R) (out : DenX lovCut_15.xs → Option R) : Option R := bif decide (h77 < (↑h82.length : Int)) then bif decide (h77 < (↑h87.length : Int)) then bif decide (0 ≤ h77) && decide (h77 < (↑h82.length : Int)) then bif spHas (Tre.mk (h82.getD h77.toNat (Tre.mk ([], 0, 0, 0, ()) [])).1 (h82.getD h77.toNat (Tre.mk ([], 0, 0, 0, ()) [])).2) h74 then bif decide (0 ≤ h77) && decide (h77 < (↑h82.length : Int)) then bif decide (0 ≤ h77) && decide (h77 < (↑h87.length : Int)) then bif decide (spWt (Tre.mk (h87.getD h77.toNat (Tre.mk (0, 0, false, [], ()) [])).1 (h87.getD h77.toNat (Tre.mk (0, 0, false, [], ()) [])).2) < spFuel) && (spArr (Tre.mk (h82.getD h77.toNat (Tre.mk ([], 0, 0, 0, ()) [])).1 (h82.getD h77.toNat (Tre.mk ([], 0, 0, 0, ()) [])).2) && decide (spWt (Tre.mk (h87.getD h77.toNat (Tre.mk (0, 0, false, [], ()) [])).1 (h87.getD h77.toNat (Tre.mk (0, 0, false, [], ()) [])).2) ≤ 4294967296)) then bif decide (h75.length + 1 ≤ 4294967296) then bif h76 then next (h74) (h75 ++ [Tre.mk (spCut (Tre.mk (h82.getD h77.toNat (Tre.mk ([], 0, 0, 0, ()) [])).1 (h82.getD h77.toNat (Tre.mk ([], 0, 0, 0, ()) [])).2) h74 (Tre.mk (h87.getD h77.toNat (Tre.mk (0, 0, false, [], ()) [])).1 (h87.getD h77.toNat (Tre.mk (0, 0, false, [], ()) [])).2)).fst.1 (spCut (Tre.mk (h82.getD h77.toNat (Tre.mk ([], 0, 0, 0, ()) [])).1 (h82.getD h77.toNat (Tre.mk ([], 0, 0, 0, ()) [])).2) h74 (Tre.mk (h87.getD h77.toNat (Tre.mk (0, 0, false, [], ()) [])).1 (h87.getD h77.toNat (Tre.mk (0, 0, false, [], ()) [])).2)).fst.2]) ((spCut (Tre.mk (h82.getD h77.toNat (Tre.mk ([], 0, 0, 0, ()) [])).1 (h82.getD h77.toNat (Tre.mk ([], 0, 0, 0, ()) [])).2) h74 (Tre.mk (h87.getD h77.toNat (Tre.mk (0, 0, false, [], ()) [])).1 (h87.getD h77.toNat (Tre.mk (0, 0, false, [], ()) [])).2)).snd) (IntKind.i64.wrap (h77 + 1)) (h78) (h79) (h80) (h81) (h82) (h83) (h84) (h85) (h86) (h87) (h88) (h89) (h90) (h91) (h92) else next (h74) (h75 ++ [Tre.mk (spCut (Tre.mk (h82.getD h77.toNat (Tre.mk ([], 0, 0, 0, ()) [])).1 (h82.getD h77.toNat (Tre.mk ([], 0, 0, 0, ()) [])).2) h74 (Tre.mk (h87.getD h77.toNat (Tre.mk (0, 0, false, [], ()) [])).1 (h87.getD h77.toNat (Tre.mk (0, 0, false, [], ()) [])).2)).fst.1 (spCut (Tre.mk (h82.getD h77.toNat (Tre.mk ([], 0, 0, 0, ()) [])).1 (h82.getD h77.toNat (Tre.mk ([], 0, 0, 0, ()) [])).2) h74 (Tre.mk (h87.getD h77.toNat (Tre.mk (0, 0, false, [], ()) [])).1 (h87.getD h77.toNat (Tre.mk (0, 0, false, [], ()) [])).2)).fst.2]) (false) (IntKind.i64.wrap (h77 + 1)) (h78) (h79) (h80) (h81) (h82) (h83) (h84) (h85) (h86) (h87) (h88) (h89) (h90) (h91) (h92) else none else none else none else none else bif h76 then bif decide (0 ≤ h77) && decide (h77 < (↑h87.length : Int)) then next (h74) (h75) (spZeroN (Tre.mk (h87.getD h77.toNat (Tre.mk (0, 0, false, [], ()) [])).1 (h87.getD h77.toNat (Tre.mk (0, 0, false, [], ()) [])).2)) (IntKind.i64.wrap (h77 + 1)) (h78) (h79) (h80) (h81) (h82) (h83) (h84) (h85) (h86) (h87) (h88) (h89) (h90) (h91) (h92) else none else next (h74) (h75) (false) (IntKind.i64.wrap (h77 + 1)) (h78) (h79) (h80) (h81) (h82) (h83) (h84) (h85) (h86) (h87) (h88) (h89) (h90) (h91) (h92) else none else out (.ret ((), ((h75, (h76, ())), ((h88, (h89, (h90, (h91, (h92, ()))))), ())))) else out (.ret ((), ((h75, (h76, ())), ((h88, (h89, (h90, (h91, (h92, ()))))), ()))))
def itvCut_15 (n : Nat) (h74 : Int) (h75 : List (((Ty.int IntKind.i64).prod ((Ty.int IntKind.i64).prod (Ty.bool.prod ((Ty.sl 5 (Ty.int IntKind.u8)).prod Ty.unit)))).tree 98).den) (h76 : Bool) (h77 : Int) (h78 : List Int) (h79 : Int) (h80 : Int) (h81 : Int) (h82 : List (Fd)) (h83 : Int) (h84 : Int) (h85 : Bool) (h86 : List Int) (h87 : List (Nd)) (h88 : Int) (h89 : Int) (h90 : Bool) (h91 : List Int) (h92 : List (((Ty.int IntKind.i64).prod ((Ty.int IntKind.i64).prod (Ty.bool.prod ((Ty.sl 5 (Ty.int IntKind.u8)).prod Ty.unit)))).tree 98).den) : Option (DenX lovCut_15.xs) := lpN tt hdvCut dr lpvCut 0 Go.Proofs.Tryz.f135 (topL Go.Proofs.Tryz.f135 1) n (lovCut_15.st.mk' ((h74, (h75, (h76, (h77, ())))), ((h78, (h79, (h80, (h81, (h82, ()))))), ((h83, (h84, (h85, (h86, (h87, ()))))), ((h88, (h89, (h90, (h91, (h92, ()))))), ()))))) (decX lovCut_15.xs)
theorem slvCut_15 (n : Nat) (h74 : Int) (h75 : List (((Ty.int IntKind.i64).prod ((Ty.int IntKind.i64).prod (Ty.bool.prod ((Ty.sl 5 (Ty.int IntKind.u8)).prod Ty.unit)))).tree 98).den) (h76 : Bool) (h77 : Int) (h78 : List Int) (h79 : Int) (h80 : Int) (h81 : Int) (h82 : List (Fd)) (h83 : Int) (h84 : Int) (h85 : Bool) (h86 : List Int) (h87 : List (Nd)) (h88 : Int) (h89 : Int) (h90 : Bool) (h91 : List Int) (h92 : List (((Ty.int IntKind.i64).prod ((Ty.int IntKind.i64).prod (Ty.bool.prod ((Ty.sl 5 (Ty.int IntKind.u8)).prod Ty.unit)))).tree 98).den) : itvCut_15 (n + 1) h74 h75 h76 h77 h78 h79 h80 h81 h82 h83 h84 h85 h86 h87 h88 h89 h90 h91 h92 = stepvCut_15 h74 h75 h76 h77 h78 h79 h80 h81 h82 h83 h84 h85 h86 h87 h88 h89 h90 h91 h92 (itvCut_15 n) some := by kernel_rfl
theorem loopvCut_6 {f0 : Fd} {fs : List Fd} {ks : List Nd} {v : Int} (ha : spArr f0 = true) (hf : spWts ks < spFuel) (hb : spWts ks ≤ 4294967296) (nm : List Int) (k' lo hi a b : Int) (z : Bool) (x : List Int) (a' b' : Int) (z' : Bool) (x' : List Int) (l' : List Nd) : ∀ (k j : Nat) (o : List Nd) (t : Bool), ks.length < j + k → j ≤ ks.length → o.length ≤ j →
    itvCut_6 k v o t j nm k' lo hi (f0 :: fs) a b z x ks a' b' z' x' l' = some (.ret ((), (((o ++ (spCItems f0 v (ks.drop j)).1), ((t && (spCItems f0 v (ks.drop j)).2), ())), ((a', (b', (z', (x', (l', ()))))), ())))) := by
  intro k
  induction k with
  | zero => intro j o t h1 h2; omega
  | succ k ih =>
    intro j o t h1 h2 h3
    rw [slvCut_6]
    unfold stepvCut_6
    have hlen := spWts_len ks
    by_cases hj : j < ks.length
    · refine (bif_true (decide_eq_true (show (j : Int) < (ks.length : Int) by omega)) _ _).trans ?_
      refine (bif_true (by simp) _ _).trans ?_
      refine (bif_true (by simp; omega) _ _).trans ?_
      have hmem := spWt_mem (List.getElem_mem hj)
      have hd : ks.drop j = ks[j] :: ks.drop (j + 1) := List.drop_eq_getElem_cons hj
      have ih' := fun t' => ih (j + 1) (o ++ [(spCut f0 v ks[j]).1]) t' (by omega) (by omega) (by simp; omega)
      rw [hd, spCItems]
      rw [wrap_i64 (n := (j : Int) + 1) (by omega) (by omega)]
      simp only [Int.toNat_natCast, getD_lt hj]
      generalize ks[j] = u at hmem ih' ⊢
      obtain ⟨ul, uk⟩ := u
      obtain ⟨fl, fk⟩ := f0
      refine (bif_true (show (decide (spWt (Tre.mk ul uk) < spFuel) && (spArr (Tre.mk fl fk) && decide (spWt (Tre.mk ul uk) ≤ 4294967296))) = true by rw [ha]; simp; omega) _ _).trans ?_
      refine (bif_true (decide_eq_true (show o.length + 1 ≤ 4294967296 by omega)) _ _).trans ?_
      have e1 : o ++ [Tre.mk (spCut (Tre.mk fl fk) v (Tre.mk ul uk)).1.1 (spCut (Tre.mk fl fk) v (Tre.mk ul uk)).1.2] = o ++ [(spCut (Tre.mk fl fk) v (Tre.mk ul uk)).1] := by rw [nd_eta]
      cases t with
      | true =>
        show itvCut_6 k v (o ++ [Tre.mk (spCut (Tre.mk fl fk) v (Tre.mk ul uk)).1.1 (spCut (Tre.mk fl fk) v (Tre.mk ul uk)).1.2]) (spCut (Tre.mk fl fk) v (Tre.mk ul uk)).2 _ _ _ _ _ _ _ _ _ _ _ _ _ _ _ _ = _
        rw [e1]
        refine (ih' _).trans ?_; simp
      | false =>
        show itvCut_6 k v (o ++ [Tre.mk (spCut (Tre.mk fl fk) v (Tre.mk ul uk)).1.1 (spCut (Tre.mk fl fk) v (Tre.mk ul uk)).1.2]) false _ _ _ _ _ _ _ _ _ _ _ _ _ _ _ _ = _
        rw [e1]
        refine (ih' false).trans ?_; simp
    · refine (bif_false (decide_eq_false (show ¬ (j : Int) < (ks.length : Int) by omega)) _ _).trans ?_
      rw [List.drop_of_length_le (by omega), spCItems, List.append_nil, Bool.and_true]
theorem loopvCut_15 {fs : List Fd} {ks : List Nd} {v : Int} (ha : spArrs fs = true) (hf : spWts ks < spFuel) (hb : spWts ks ≤ 4294967296) (nm : List Int) (k' lo hi a b : Int) (z : Bool) (x : List Int) (a' b' : Int) (z' : Bool) (x' : List Int) (l' : List Nd) : ∀ (k j : Nat) (o : List Nd) (t : Bool), ks.length < j + k → j ≤ ks.length → o.length ≤ j →
    itvCut_15 k v o t j nm k' lo hi fs a b z x ks a' b' z' x' l' = some (.ret ((), (((o ++ (spCZip v (fs.drop j) (ks.drop j)).1), ((t && (spCZip v (fs.drop j) (ks.drop j)).2), ())), ((a', (b', (z', (x', (l', ()))))), ())))) := by
  intro k
  induction k with
  | zero => intro j o t h1 h2; omega
  | succ k ih =>
    intro j o t h1 h2 h3
    rw [slvCut_15]
    unfold stepvCut_15
    have hlen := spWts_len ks
    by_cases hj' : j < fs.length
    · refine (bif_true (decide_eq_true (show (j : Int) < (fs.length : Int) by omega)) _ _).trans ?_
      by_cases hj : j < ks.length
      · refine (bif_true (decide_eq_true (show (j : Int) < (ks.length : Int) by omega)) _ _).trans ?_
        refine (bif_true (by simp; omega) _ _).trans ?_
        have hmem := spWt_mem (List.getElem_mem hj)
        have har := spArrs_mem ha (List.getElem_mem hj')
        have hd : ks.drop j = ks[j] :: ks.drop (j + 1) := List.drop_eq_getElem_cons hj
        have hd' : fs.drop j = fs[j] :: fs.drop (j + 1) := List.drop_eq_getElem_cons hj'
        have ih1 := fun t' => ih (j + 1) (o ++ [(spCut fs[j] v ks[j]).1]) t' (by omega) (by omega) (by simp; omega)
        have ih2 := fun t' => ih (j + 1) o t' (by omega) (by omega) (by omega)
        rw [hd, hd', spCZip]
        rw [wrap_i64 (n := (j : Int) + 1) (by omega) (by omega)]
        simp only [Int.toNat_natCast, getD_lt hj, getD_lt hj']
        generalize ks[j] = u at hmem ih1 ⊢
        generalize fs[j] = f0 at har ih1 ⊢
        obtain ⟨ul, uk⟩ := u
        obtain ⟨fl, fk⟩ := f0
        by_cases hh : spHas (Tre.mk fl fk) v = true
        · refine (bif_true (show spHas (Tre.mk fl fk) v = true from hh) _ _).trans ?_
          refine (bif_true (by simp; omega) _ _).trans ?_
          refine (bif_true (by simp; omega) _ _).trans ?_
          refine (bif_true (show (decide (spWt (Tre.mk ul uk) < spFuel) && (spArr (Tre.mk fl fk) && decide (spWt (Tre.mk ul uk) ≤ 4294967296))) = true by rw [har]; simp; omega) _ _).trans ?_
          refine (bif_true (decide_eq_true (show o.length + 1 ≤ 4294967296 by omega)) _ _).trans ?_
          rw [if_pos hh]
          show (bif t then itvCut_15 k v (o ++ [Tre.mk (spCut (Tre.mk fl fk) v (Tre.mk ul uk)).1.1 (spCut (Tre.mk fl fk) v (Tre.mk ul uk)).1.2]) (spCut (Tre.mk fl fk) v (Tre.mk ul uk)).2 _ _ _ _ _ _ _ _ _ _ _ _ _ _ _ _ else _) = _
          generalize spCut (Tre.mk fl fk) v (Tre.mk ul uk) = r at ih1 ⊢
          obtain ⟨⟨rl, rk⟩, rb⟩ := r
          cases t with
          | true => refine (ih1 rb).trans ?_; simp
          | false => refine (ih1 false).trans ?_; simp
        · refine (bif_false (show spHas (Tre.mk fl fk) v = false by simpa using hh) _ _).trans ?_
          rw [if_neg hh]
          cases t with
          | true =>
            show (bif decide (0 ≤ (j : Int)) && decide ((j : Int) < (ks.length : Int)) then _ else none) = _
            refine (bif_true (by simp; omega) _ _).trans ?_
            refine (ih2 _).trans ?_
            simp
          | false =>
            refine (ih2 false).trans ?_
            simp
      · refine (bif_false (decide_eq_false (show ¬ (j : Int) < (ks.length : Int) by omega)) _ _).trans ?_
        rw [List.drop_of_length_le (show ks.length ≤ j by omega), List.drop_eq_getElem_cons hj', spCZip, List.append_nil, Bool.and_true]
        simp
    · refine (bif_false (decide_eq_false (show ¬ (j : Int) < (fs.length : Int) by omega)) _ _).trans ?_
      rw [List.drop_of_length_le (show fs.length ≤ j by omega), spCZip, List.append_nil, Bool.and_true]
      simp
def bodyvCut (a0 : Fd) (a1 : Int) (a2 : Nd) : Option iovCut.Res := bif a0.1.snd.fst == 9 then (FvCut_6 ((a1, ([], (true, (0, ())))), ((a0.1.fst, (a0.1.snd.fst, (a0.1.snd.snd.fst, (a0.1.snd.snd.snd.fst, (a0.2, ()))))), ((a2.1.fst, (a2.1.snd.fst, (a2.1.snd.snd.fst, (a2.1.snd.snd.snd.fst, (a2.2, ()))))), ((0, (0, (false, ([], ([], ()))))), ()))))).run fun y => match y with | .ret ((), ((x67, x68, ()), (x69, x70, x71, x72, x73, ()), ())) => (some (Out.ret ((Tre.mk (9, 0, false, [], ()) x67, x68, ()), ()))) else bif a0.1.snd.fst != 10 then some (Out.ret ((Tre.mk a2.1 a2.2, true, ()), ())) else (FvCut_15 ((a1, ([], (true, (0, ())))), ((a0.1.fst, (a0.1.snd.fst, (a0.1.snd.snd.fst, (a0.1.snd.snd.snd.fst, (a0.2, ()))))), ((a2.1.fst, (a2.1.snd.fst, (a2.1.snd.snd.fst, (a2.1.snd.snd.snd.fst, (a2.2, ()))))), ((0, (0, (false, ([], ([], ()))))), ()))))).run fun y => match y with | .ret ((), ((x183, x184, ()), (x185, x186, x187, x188, x189, ()), ())) => (some (Out.ret ((Tre.mk (10, 0, false, [], ()) x183, x184, ()), ())))
theorem runvCut (a0 : Fd) (a1 : Int) (a2 : Nd) : Io.run tt hdvCut dr lpvCut iovCut Go.Proofs.Tryz.f135 ((a0, a1, a2, ()), ()) = bodyvCut a0 a1 a2 := by kernel_rfl
theorem okvCutS (rvCut : HcOk prog 135 (ioHd iovCut (FvCutN spFuel))) : HcOk prog 135 (ioHd iovCut (FvCutN (spFuel + 1))) := by
  refine fn_sound (n := 400) hm (cs := csvCut) (.cons rvCut (.cons oktHere1 (.cons oktZero .nil))) (lp := lpvCut) (fn := Go.Proofs.Tryz.f135) (by kernel_rfl) (by kernel_rfl) (by kernel_rfl) iovCut (.step (h0 := loHd lovCut_6 FvCut_6) (by kernel_rfl) (loop_sound (n := 400) hm (cs := csvCut) (.cons rvCut (.cons oktHere1 (.cons oktZero .nil))) (lp := lpvCut) (fn := Go.Proofs.Tryz.f135) (.done (by kernel_rfl)) lovCut_6 FvCut_6 ?_) (.step (h0 := loHd lovCut_15 FvCut_15) (by kernel_rfl) (loop_sound (n := 400) hm (cs := csvCut) (.cons rvCut (.cons oktHere1 (.cons oktZero .nil))) (lp := lpvCut) (fn := Go.Proofs.Tryz.f135) (.done (by kernel_rfl)) lovCut_15 FvCut_15 ?_) (.done (by kernel_rfl)))) (FvCutN (spFuel + 1)) ?_
  · rintro ⟨⟨(v : Int), (o : List Nd), (t : Bool), (i : Int), ⟨⟩⟩, ⟨⟨(nm : List Int), (k' : Int), (lo : Int), (hi : Int), (fs : List Fd), ⟨⟩⟩, ⟨(a : Int), (b : Int), (z : Bool), (x : List Int), (ks : List Nd), ⟨⟩⟩, ⟨(a' : Int), (b' : Int), (z' : Bool), (x' : List Int), (l' : List Nd), ⟨⟩⟩, ⟨⟩⟩⟩ y hw hy
    obtain ⟨hg, hy⟩ := Tr.guard hy
    simp only [Bool.and_eq_true, decide_eq_true_eq] at hg
    obtain ⟨h1, ⟨h2, h7⟩, ⟨h3, h4⟩, h5, h6⟩ := hg
    have h1 : i = 0 := h1
    have h2 : o = [] := List.eq_nil_of_length_eq_zero h2
    have h7 : t = true := h7
    have h3 : fs.length ≠ 0 := h3
    have h4 : spArrs fs = true := h4
    have h5 : spWts ks < spFuel := h5
    have h6 : spWts ks ≤ 4294967296 := h6
    subst h1
    subst h2
    subst h7
    obtain ⟨f0, fs, rfl⟩ : ∃ f0 fs', fs = f0 :: fs' := by cases fs with | nil => exact absurd rfl h3 | cons a b => exact ⟨a, b, rfl⟩
    refine ⟨ks.length + 1, (loopvCut_6 (spArrs_mem h4 (by simp)) h5 h6 nm k' lo hi a b z x a' b' z' x' l' (ks.length + 1) 0 [] true (by omega) (by omega) (by simp)).trans ?_⟩
    rw [← hy, List.drop_zero]
    rfl
  · rintro ⟨⟨(v : Int), (o : List Nd), (t : Bool), (i : Int), ⟨⟩⟩, ⟨⟨(nm : List Int), (k' : Int), (lo : Int), (hi : Int), (fs : List Fd), ⟨⟩⟩, ⟨(a : Int), (b : Int), (z : Bool), (x : List Int), (ks : List Nd), ⟨⟩⟩, ⟨(a' : Int), (b' : Int), (z' : Bool), (x' : List Int), (l' : List Nd), ⟨⟩⟩, ⟨⟩⟩⟩ y hw hy
    obtain ⟨hg, hy⟩ := Tr.guard hy
    simp only [Bool.and_eq_true, decide_eq_true_eq] at hg
    obtain ⟨h1, ⟨h2, h7⟩, h4, h5, h6⟩ := hg
    have h1 : i = 0 := h1
    have h2 : o = [] := List.eq_nil_of_length_eq_zero h2
    have h7 : t = true := h7
    have h4 : spArrs fs = true := h4
    have h5 : spWts ks < spFuel := h5
    have h6 : spWts ks ≤ 4294967296 := h6
    subst h1
    subst h2
    subst h7
    refine ⟨ks.length + 1, (loopvCut_15 h4 h5 h6 nm k' lo hi a b z x a' b' z' x' l' (ks.length + 1) 0 [] true (by omega) (by omega) (by simp)).trans ?_⟩
    rw [← hy, List.drop_zero, List.drop_zero]
    rfl
  · rintro ⟨⟨(f : Fd), (v : Int), (n : Nd), ⟨⟩⟩, ⟨⟩⟩ out hw ho
    obtain ⟨hg, ho⟩ := Tr.guard ho
    simp only [Bool.and_eq_true, decide_eq_true_eq] at hg
    obtain ⟨hk, ha, hb⟩ := hg
    have hk : spWt n < spFuel + 1 := hk
    have ha : spArr f = true := ha
    have hb : spWt n ≤ 4294967296 := hb
    cases ho
    refine (runvCut f v n).trans ?_
    unfold bodyvCut
    show _ = some (Out.ret (((spCut f v n).1, ((spCut f v n).2, ())), ()))
    obtain ⟨⟨(nm : List Int), (k' : Int), (lo : Int), (hi : Int), ⟨⟩⟩, (fs : List Fd)⟩ := f
    obtain ⟨⟨(a : Int), (b : Int), (z : Bool), (x : List Int), ⟨⟩⟩, (ks : List Nd)⟩ := n
    have hwf := spWt_eq (Tre.mk (a, (b, (z, (x, ())))) ks)
    have hwf : spWt (Tre.mk (a, (b, (z, (x, ())))) ks) = 1 + x.length + spWts ks := hwf
    have hk : 1 + x.length + spWts ks < spFuel + 1 := by rw [← hwf]; exact hk
    have hb : 1 + x.length + spWts ks ≤ 4294967296 := by rw [← hwf]; exact hb
    rw [spArr_eq] at ha
    simp only [Bool.and_eq_true] at ha
    obtain ⟨⟨ha1, ha3⟩, ha2⟩ := ha
    have ha2 : spArrs fs = true := ha2
    rw [spCut]
    by_cases h9 : k' = 9
    · rw [if_pos h9]
      refine (bif_true (by simpa using h9) _ _).trans ?_
      have h0 : fs.length ≠ 0 := by
        rcases Bool.or_eq_true _ _ ▸ ha1 with h | h
        · exact absurd h9 (of_decide_eq_true h)
        · exact of_decide_eq_true h
      obtain ⟨f0, fs, rfl⟩ : ∃ f0 fs', fs = f0 :: fs' := by cases fs with | nil => exact absurd rfl h0 | cons a b => exact ⟨a, b, rfl⟩
      have c1 : (decide ((0 : Int) = 0) && ((decide (([] : List Nd).length = 0) && true) && ((decide ((f0 :: fs).length ≠ 0) && spArrs (f0 :: fs)) && (decide (spWts ks < spFuel) && decide (spWts ks ≤ 4294967296))))) = true := by
        rw [ha2]; simp; omega
      exact bif_true c1 _ _
    rw [if_neg h9]
    refine (bif_false (by simpa using h9) _ _).trans ?_
    by_cases h10 : k' = 10
    · rw [if_pos h10]
      refine (bif_false (by simpa using h10) _ _).trans ?_
      have c1 : (decide ((0 : Int) = 0) && ((decide (([] : List Nd).length = 0) && true) && (spArrs fs && (decide (spWts ks < spFuel) && decide (spWts ks ≤ 4294967296))))) = true := by
        rw [ha2]; simp; omega
      exact bif_true c1 _ _
    · rw [if_neg h10]
      exact bif_true (by simpa using h10) _ _
end
theorem okvCutN (n : Nat) : HcOk prog 135 (ioHd iovCut (FvCutN n)) := by
  induction n with
  | zero => exact HcOk.none (fn := Go.Proofs.Tryz.f135) (by kernel_rfl) (by kernel_rfl) (by kernel_rfl) _ _ fun d out h => by cases h
  | succ n ih =>
    have := @okvCutS ⟨⟨n⟩⟩ (by rw [FuT.val]; exact ih)
    rw [FuT.val] at this
    exact this
theorem okvCut : HcOk prog 135 (ioHd iovCut FvCut) := by
  refine HcOk.lim okvCutN fun d => ⟨spWt d.1.2.2.1 + 1, fun out h => ?_⟩
  obtain ⟨hg, h⟩ := Tr.guard h
  exact (bif_true (by rw [hg]; simp) _ _).trans h
section
variable [Inhabited FuT]
abbrev lovFill_5 : Lo := ⟨⟨[.any, .one (.hol (.int IntKind.i64)), .any, .one (.ptr 3 0), .any, .one (.ptr 5 0), .one (.ptr 6 0), .one (.onl 98 (((Ty.int IntKind.i64).prod ((Ty.int IntKind.i64).prod (Ty.bool.prod ((Ty.sl 5 (Ty.int IntKind.u8)).prod Ty.unit)))).tree 98) 15), .one (.hol (.int IntKind.i64)), .any, .any, .any, .any, .any, .any, .any, .any, .any, .any, .any, .any, .any, .any, .any, .any, .any, .any, .any, .any, .any, .any, .any, .any, .any, .any, .any, .any, .any, .any, .any, .any, .any, .any, .any, .any, .any, .any, .any, .any, .any, .any, .any, .any, .any, .any, .any, .any, .any, .any, .any, .any, .any, .any, .any, .any, .any, .any, .any, .any, .any, .any, .any, .any, .any, .any, .any, .any, .any, .any, .any, .any, .any, .any, .any, .any, .any, .any, .any, .any, .any, .any, .any], [none, none, none, some [.hol .str, .hol (.int IntKind.i64), .hol (.int IntKind.i64), .hol (.int IntKind.i64), .hol (.sl 213 tFld)], none, some [.hol (.int IntKind.i64), .hol (.int IntKind.i64), .hol .bool, .hol (.sl 5 (Ty.int IntKind.u8)), .hol (.sl 98 (((Ty.int IntKind.i64).prod ((Ty.int IntKind.i64).prod (Ty.bool.prod ((Ty.sl 5 (Ty.int IntKind.u8)).prod Ty.unit)))).tree 98))], some [.hol (.int IntKind.i64), .hol (.int IntKind.i64), .hol .bool, .onl 5 (Ty.int IntKind.u8) 3080, .onl 98 (((Ty.int IntKind.i64).prod ((Ty.int IntKind.i64).prod (Ty.bool.prod ((Ty.sl 5 (Ty.int IntKind.u8)).prod Ty.unit)))).tree 98) 3082]]⟩, [(.exit 0, ⟨[.any, .any, .any, .any, .any, .any, .one (.ptr 6 0), .one (.onl 98 (((Ty.int IntKind.i64).prod ((Ty.int IntKind.i64).prod (Ty.bool.prod ((Ty.sl 5 (Ty.int IntKind.u8)).prod Ty.unit)))).tree 98) 15), .any, .any, .any, .any, .any, .any, .any, .any, .any, .any, .any, .any, .any, .any, .any, .any, .any, .any, .any, .any, .any, .any, .any, .any, .any, .any, .any, .any, .any, .any, .any, .any, .any, .any, .any, .any, .any, .any, .any, .any, .any, .any, .any, .any, .any, .any, .any, .any, .any, .any, .any, .any, .any, .any, .any, .any, .any, .any, .any, .any, .any, .any, .any, .any, .any, .any, .any, .any, .any, .any, .any, .any, .any, .any, .any, .any, .any, .any, .any, .any, .any, .any, .any, .any], [none, none, none, none, none, none, some [.hol (.int IntKind.i64), .hol (.int IntKind.i64), .hol .bool, .onl 5 (Ty.int IntKind.u8) 3080, .onl 98 (((Ty.int IntKind.i64).prod ((Ty.int IntKind.i64).prod (Ty.bool.prod ((Ty.sl 5 (Ty.int IntKind.u8)).prod Ty.unit)))).tree 98) 3082]]⟩)]⟩
-- FvFill_5 : lovFill_5.st.den → Tr (DenX lovFill_5.xs) | ((h3, (h4, (h5, ()))), ((h6, (h7, (h8, (h9, (h10, ()))))), ((h11, (h12, (h13, (h14, (h15, ()))))), ((h16, (h17, (h18, (h19, (h20, ()))))), ()))))
abbrev lovFill_13 : Lo := ⟨⟨[.any, .one (.hol (.int IntKind.i64)), .any, .one (.ptr 3 0), .any, .one (.ptr 5 0), .one (.ptr 6 0), .one (.onl 98 (((Ty.int IntKind.i64).prod ((Ty.int IntKind.i64).prod (Ty.bool.prod ((Ty.sl 5 (Ty.int IntKind.u8)).prod Ty.unit)))).tree 98) 15), .any, .one (.hol (.int IntKind.i64)), .one (.hol (.int IntKind.i64)), .any, .any, .any, .any, .any, .any, .any, .any, .any, .any, .any, .any, .any, .any, .any, .any, .any, .any, .any, .any, .any, .any, .any, .any, .any, .any, .any, .any, .any, .any, .any, .any, .any, .any, .any, .any, .any, .any, .any, .any, .any, .any, .any, .any, .any, .any, .any, .any, .any, .any, .any, .any, .any, .any, .any, .any, .any, .any, .any, .any, .any, .any, .any, .any, .any, .any, .any, .any, .any, .any, .any, .any, .any, .any, .any, .any, .any, .any, .any, .any, .any], [none, none, none, some [.hol .str, .hol (.int IntKind.i64), .hol (.int IntKind.i64), .hol (.int IntKind.i64), .hol (.sl 213 tFld)], none, some [.hol (.int IntKind.i64), .hol (.int IntKind.i64), .hol .bool, .hol (.sl 5 (Ty.int IntKind.u8)), .hol (.sl 98 (((Ty.int IntKind.i64).prod ((Ty.int IntKind.i64).prod (Ty.bool.prod ((Ty.sl 5 (Ty.int IntKind.u8)).prod Ty.unit)))).tree 98))], some [.hol (.int IntKind.i64), .hol (.int IntKind.i64), .hol .bool, .onl 5 (Ty.int IntKind.u8) 3080, .onl 98 (((Ty.int IntKind.i64).prod ((Ty.int IntKind.i64).prod (Ty.bool.prod ((Ty.sl 5 (Ty.int IntKind.u8)).prod Ty.unit)))).tree 98) 3082]]⟩, [(.exit 2, ⟨[.any, .any, .any, .any, .any, .any, .one (.ptr 6 0), .one (.onl 98 (((Ty.int IntKind.i64).prod ((Ty.int IntKind.i64).prod (Ty.bool.prod ((Ty.sl 5 (Ty.int IntKind.u8)).prod Ty.unit)))).tree 98) 15), .any, .any, .any, .any, .any, .any, .any, .any, .any, .any, .any, .any, .any, .any, .any, .any, .any, .any, .any, .any, .any, .any, .any, .any, .any, .any, .any, .any, .any, .any, .any, .any, .any, .any, .any, .any, .any, .any, .any, .any, .any, .any, .any, .any, .any, .any, .any, .any, .any, .any, .any, .any, .any, .any, .any, .any, .any, .any, .any, .any, .any, .any, .any, .any, .any, .any, .any, .any, .any, .any, .any, .any, .any, .any, .any, .any, .any, .any, .any, .any, .any, .any, .any, .any], [none, none, none, none, none, none, some [.hol (.int IntKind.i64), .hol (.int IntKind.i64), .hol .bool, .onl 5 (Ty.int IntKind.u8) 3080, .onl 98 (((Ty.int IntKind.i64).prod ((Ty.int IntKind.i64).prod (Ty.bool.prod ((Ty.sl 5 (Ty.int IntKind.u8)).prod Ty.unit)))).tree 98) 3082]]⟩)]⟩
-- FvFill_13 : lovFill_13.st.den → Tr (DenX lovFill_13.xs) | ((h51, (h52, (h53, (h54, ())))), ((h55, (h56, (h57, (h58, (h59, ()))))), ((h60, (h61, (h62, (h63, (h64, ()))))), ((h65, (h66, (h67, (h68, (h69, ()))))), ()))))
def FvFill_5 (d : lovFill_5.st.den) : Tr (DenX lovFill_5.xs) :=
  .ite (decide (d.1.2.2.1 = 0) && (decide (d.1.2.1.length = 0) && ((decide (d.2.1.2.2.2.2.1.length ≠ 0) && spArrs d.2.1.2.2.2.2.1) && (decide (spWts d.2.2.1.2.2.2.2.1 < spFuel) && decide (spWts d.2.2.1.2.2.2.2.1 ≤ 4294967296)))))
    (.ret (.ret ((), ((spFItems (d.2.1.2.2.2.2.1.headD (.mk ([], (0, (0, (0, ())))) [])) d.1.1 d.2.2.1.2.2.2.2.1, ()), (d.2.2.2.1, ()))))) .no
def FvFill_13 (d : lovFill_13.st.den) : Tr (DenX lovFill_13.xs) :=
  .ite ((decide (d.1.2.2.1 = 0) && decide (d.1.2.2.2.1 = 0)) && (decide (d.1.2.1.length = 0) && ((decide (d.2.1.2.2.2.2.1.length ≤ 16) && spArrs d.2.1.2.2.2.2.1) && (decide (spWts d.2.2.1.2.2.2.2.1 < spFuel) && decide (spWts d.2.2.1.2.2.2.2.1 ≤ 4294967296)))))
    (.ret (.ret ((), ((spFZip d.1.1 d.2.1.2.2.2.2.1 d.2.2.1.2.2.2.2.1, ()), (d.2.2.2.1, ()))))) .no
end
end
end Go.Proofs.YtjpeefegeobgfaaGreat.Sym
