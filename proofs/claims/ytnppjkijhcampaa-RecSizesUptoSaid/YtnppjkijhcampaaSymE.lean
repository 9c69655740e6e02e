/- Soundness of the operations that only compute: all of them together. -/
import Derived.Test.YtnppjkijhcampaaSymD
import Derived.Laws.BytesArg
import Derived.Laws.StructEq

namespace Go.Proofs.Ytnppjkijhcampaa.Sym
open Go
set_option linter.unusedSimpArgs false
set_option linter.unusedVariables false

section
variable {P : Program} {tt : TT} {G : Gh} {w : World}

theorem ne_oth {d : Ds} {d' : Ds} (h : d = d') (h' : d' ≠ .oth) : d ≠ .oth := by rw [h]; exact h'

theorem neg_sound {op : BinOp} {b chk : Bool} {c : C} (h : neg op b = some (chk, c)) : (op = .eql ∧ c = .bool b ∨ op = .neq ∧ c = .bool (!b)) ∧ chk = true := by
  cases op <;> simp [neg] at h
  · exact ⟨.inl ⟨rfl, h.2.symm⟩, h.1⟩
  · exact ⟨.inr ⟨rfl, h.2.symm⟩, h.1⟩

theorem str_beq {s t : List Int} (hs : byteR s) (ht : byteR t) : ((mkStr s).toList == (mkStr t).toList) = decide (s = t) := by
  rw [Bool.eq_iff_iff]
  simp only [beq_iff_eq, decide_eq_true_eq]
  constructor
  · intro h
    refine mkStr_inj hs ht ?_
    rw [ByteArray.toList_eq, ByteArray.toList_eq] at h
    exact ByteArray.ext (Array.ext' h)
  · rintro rfl; rfl

theorem mkStr_append (s t : List Int) : mkStr s ++ mkStr t = mkStr (s ++ t) := by
  apply ByteArray.ext
  apply Array.ext'
  simp [mkStr]

theorem run_equal_bool {w : World} (t : Nat) (x y : Bool) (h : P.underlying t = some .bool) : (Op.equal t (.bool x) (.bool y)).run P w = .ok (x == y) w := by
  show (Op.equalIn (9999 + 1) t (.bool x) (.bool y)).run P w = _
  exact run_equalIn_bool' w 9999 t x y h

theorem binOpC_sound (htt : TTok P tt) {op : BinOp} {xT : Nat} {c d e : C} {u v : Value} {chk : Bool} (h : binOpC tt op xT c d = some (chk, e)) (hc : chk = true) (hu : Rc G w c u) (hv : Rc G w d v) (x y : Operand) :
    ∃ r, (∀ w', (do eqGuard op xT x y u v; binOp op xT u v : Sem Value).run P w' = .ok r w') ∧ Rc G w e r := by
  unfold binOpC at h
  split at h
  · rename_i k a k' b
    obtain ⟨rfl, hu⟩ := hu
    obtain ⟨rfl, hv⟩ := hv
    have hg : ∀ op w, (eqGuard op xT x y (.int k a) (.int k' b)).run P w = .ok () w := by intro op w; cases op <;> simp [eqGuard]
    cases hs : isSh op with
    | true =>
      simp only [hs, cond_true] at h
      obtain ⟨r, h1, h2⟩ := shOp_sound (P := P) (G := G) (w := w) (k' := k') h hc hu xT
      exact ⟨r, fun w' => by simp [hg, h1], h2⟩
    | false =>
      simp only [hs, cond_false] at h
      cases hk : decide (k = k') with
      | false => rw [hk] at h; cases h
      | true =>
        rw [hk] at h
        obtain rfl := of_decide_eq_true hk
        obtain ⟨r, h1, h2⟩ := intOp_sound (P := P) (G := G) (w := w) h hc hu hv hs xT
        exact ⟨r, fun w' => by simp [hg, h1], h2⟩
  · rename_i a b
    obtain ⟨rfl, ha, hal⟩ := hu
    obtain ⟨rfl, hb, hbl⟩ := hv
    have hg : ∀ op w, (eqGuard op xT x y (.string (mkStr a)) (.string (mkStr b))).run P w = .ok () w := by intro op w; cases op <;> simp [eqGuard]
    split at h
    · simp only [Option.some.injEq, Prod.mk.injEq] at h
      obtain ⟨h1, rfl⟩ := h
      rw [hc] at h1
      have h1 := of_decide_eq_true h1
      refine ⟨.string (mkStr (a ++ b)), fun w' => ?_, rfl, ?_, ?_⟩
      · have hm : ¬ IntKind.i64.max < ((mkStr a).size : Int) + ((mkStr b).size : Int) := by
          simp only [IntKind.max, IntKind.signed, IntKind.bits, mkStr_size]; simp; omega
        simp only [binOp, Op.stringOp, Sem.run_bind, hg, Result.andThen_ok, Int.natCast_add]
        rw [if_neg (by simpa using hm)]
        simp [mkStr_append]
      · intro c hc'
        rcases List.mem_append.1 hc' with h | h
        · exact ha c h
        · exact hb c h
      · rw [List.length_append]; simp only [maxLen]; omega
    · obtain ⟨h1, _⟩ := neg_sound h
      rcases h1 with ⟨rfl, rfl⟩ | ⟨rfl, rfl⟩
      · exact ⟨.bool (decide (a = b)), fun w' => by simp [hg, binOp, Op.stringOp, str_beq ha hb], rfl⟩
      · exact ⟨.bool (!decide (a = b)), fun w' => by simp [hg, binOp, Op.stringOp, str_beq ha hb], rfl⟩
  · rename_i a b
    obtain rfl : u = .bool a := hu
    obtain rfl : v = .bool b := hv
    have hg : ∀ op w, (eqGuard op xT x y (.bool a) (.bool b)).run P w = .ok () w := by intro op w; cases op <;> simp [eqGuard]
    split at h
    · rename_i hd
      have hx := (htt xT (by rw [hd]; simp)).bool hd
      obtain ⟨h1, _⟩ := neg_sound h
      rcases h1 with ⟨rfl, rfl⟩ | ⟨rfl, rfl⟩
      · exact ⟨.bool (a == b), fun w' => by simp [hg, binOp, run_equal_bool (P := P) (w := w') xT a b hx], rfl⟩
      · exact ⟨.bool (!(a == b)), fun w' => by simp [hg, binOp, run_equal_bool (P := P) (w := w') xT a b hx], rfl⟩
    · cases h
  · cases h
  · cases h

theorem unOpC_sound {op : UnOp} {c d : C} {u : Value} (h : unOpC op c = some d) (hu : Rc G w c u) : ∃ r, (∀ w', (Op.unary op u).run P w' = .ok r w') ∧ Rc G w d r := by
  cases c <;> simp only [unOpC] at h <;> try cases h
  · rename_i k n
    obtain ⟨rfl, hn⟩ := hu
    cases op <;> simp only [Option.some.injEq, reduceCtorEq] at h
    · subst h; exact ⟨_, fun w' => by simp [Op.unary, Op.intArith], rfl, inR_wrap _ _⟩
    · subst h; exact ⟨_, fun w' => by simp [Op.unary, Op.intBits], rfl, inR_wrap _ _⟩
  · rename_i b
    obtain rfl : u = .bool b := hu
    cases op <;> simp only [Option.some.injEq, reduceCtorEq] at h
    subst h
    exact ⟨_, fun w' => by simp [Op.unary], rfl⟩

theorem Row.cellAt {S : Nat → Nat → Prop} {t : Ty} {A : Option Addr} {xs : List t.den} (h : Row S w t A xs) {i : Nat} {x : t.den} (hx : xs[i]? = some x) :
    ∃ b o c, A = some ⟨b, o, none⟩ ∧ Rt S w t x c ∧ At S w b (o + i * t.size) c := by
  have hne : xs ≠ [] := by rintro rfl; simp at hx
  obtain ⟨b, o, e, hh⟩ := h hne
  obtain ⟨c, h1, h2⟩ := hh i x hx
  exact ⟨b, o, c, e, h1, h2⟩

theorem Row.byteR {S : Nat → Nat → Prop} {A : Option Addr} {xs : List Int} (h : Row S w (.int .u8) A xs) : byteR xs := by
  intro c hc
  obtain ⟨i, hi⟩ := List.getElem?_of_mem hc
  obtain ⟨b, o, cs, _, h1, _⟩ := h.cellAt (t := .int .u8) hi
  have := h1.2
  simp only [inR, IntKind.min, IntKind.max, IntKind.signed, IntKind.bits] at this
  simp at this
  omega

theorem convC_sound (htt : TTok P tt) {src dst : Nat} {c d : C} {u : Value} (h : convC tt src dst c = some d) (hu : Rc G w c u) : ∃ r, (∀ w', (∀ b o, G.S b o → w'.cell? ⟨b, o, none⟩ = w.cell? ⟨b, o, none⟩) → (convert src dst u).run P w' = .ok r w') ∧ Rc G w d r := by
  unfold convC at h
  split at h
  · rename_i k n
    obtain ⟨rfl, hn⟩ := hu
    split at h
    · rename_i k1 k2 h1 h2
      cases h
      have e1 := (htt src (by rw [h1]; simp)).int h1
      have e2 := (htt dst (by rw [h2]; simp)).int h2
      exact ⟨_, fun w' _ => by simp [convert, run_underlying e1, run_underlying e2, Conv.intToInt], rfl, inR_wrap _ _⟩
    · cases h
  · rename_i s
    obtain ⟨rfl, hs⟩ := hu
    split at h
    · rename_i h1 h2
      cases h
      have e1 := (htt src (by rw [h1]; simp)).str h1
      have e2 := (htt dst (by rw [h2]; simp)).str h2
      exact ⟨_, fun w' _ => by simp [convert, run_underlying e1, run_underlying e2], rfl, hs⟩
    · cases h
  · rename_i e t xs own
    split at h
    · rename_i e' xs' h1 h2
      split at h
      · rename_i h3
        cases h
        have e1 := (htt src (by rw [h1]; simp)).sl h1
        have e2 := (htt dst (by rw [h2]; simp)).str h2
        have e3 := (htt e' (by rw [h3]; simp)).int h3
        obtain ⟨A, cap, rfl, hl, hcap, hrow, _⟩ := hu
        refine ⟨.string (mkStr xs'), fun w' hw' => ?_, rfl, hrow.byteR, Nat.le_trans hl hcap⟩
        by_cases hne : xs' = []
        · subst hne
          cases A with
          | none => rw [run_convert_bytes_nil w' src e' e1 e3 _ _ dst e2]; rfl
          | some ad =>
            have : (convert src dst (.slice (some ad) 0 cap)).run P w' = .ok (.string (mkStr [])) w' := by
              simp [convert, run_underlying e1, run_underlying e2, run_underlying e3, Conv.bytesToString, loadCells, loadCellsFrom]; rfl
            simpa using this
        · obtain ⟨b, o, rfl, hh⟩ := hrow hne
          refine run_convert_bytes_arg w' src e' e1 e3 b o xs'.length cap xs' rfl (fun i hi => ?_) dst e2
          obtain ⟨cs, hc1, hc2⟩ := hh i (xs'.getD i 0) (by simp [List.getD, hi])
          have hs := hc2 0 (.int .u8 (xs'.getD i 0)) (by rw [hc1.1]; rfl)
          have := (hw' _ _ hs.1).trans hs.2
          simpa [Ty.size] using this
      · cases h
    · cases h
  · cases h
end

end Go.Proofs.Ytnppjkijhcampaa.Sym
