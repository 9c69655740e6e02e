/- Soundness of the operations that only compute, operation by operation. -/
import Derived.Test.YtnppjkijhcampaaSymC

namespace Go.Proofs.Ytnppjkijhcampaa.Sym
open Go
set_option linter.unusedSimpArgs false
set_option linter.unusedVariables false

section
variable {P : Program} {tt : TT} {G : Gh} {w : World}

theorem run_typeInfo {t : Nat} {i : TypeInfo} (h : P.info? t = some i) (w : World) : (typeInfo t).run P w = .ok i w := by
  simp [typeInfo, program, Sem.run, h]
theorem run_sizeOf {t : Nat} {i : TypeInfo} (h : P.info? t = some i) (w : World) : (sizeOf t).run P w = .ok i.size w := by
  simp [sizeOf, run_typeInfo h]
theorem TIok.size {t : Nat} {ti : TI} (h : TIok P t ti) (w : World) : (sizeOf t).run P w = .ok ti.size w := by
  obtain ⟨i, z, hi, hs, _⟩ := h.inf
  rw [run_sizeOf hi, hs]
theorem run_isAgg_st {t : Nat} {fs : Array Field} (h : P.underlying t = some (.struct fs)) (w : World) : (isAgg t).run P w = .ok true w := by
  simp [isAgg, run_underlying h]
theorem run_isAgg_not {t : Nat} {d : TypeDesc} (h : P.underlying t = some d) (hd : isSt (dsOf d) = false) (ho : dsOf d ≠ .oth) (w : World) : (isAgg t).run P w = .ok false w := by
  cases d <;> simp_all [isAgg, run_underlying h, dsOf, isSt]
/-- A struct's description. -/
theorem TIok.st {t : Nat} {ti : TI} (h : TIok P t ti) {fs : List (Nat × Nat)} (hd : ti.d = .st fs) : ∃ F : Array Field, P.underlying t = some (.struct F) ∧ F.toList.map (fun f => (f.offset, f.type)) = fs := by
  obtain ⟨d, hu, e⟩ := h.und
  rw [hd] at e
  cases d <;> simp [dsOf] at e
  exact ⟨_, hu, e⟩
theorem TIok.sl {t : Nat} {ti : TI} (h : TIok P t ti) {e : Nat} (hd : ti.d = .sl e) : P.underlying t = some (.slice e) := by
  obtain ⟨d, hu, e'⟩ := h.und
  rw [hd] at e'
  cases d <;> simp [dsOf] at e'
  rw [hu, e']
theorem TIok.str {t : Nat} {ti : TI} (h : TIok P t ti) (hd : ti.d = .str) : P.underlying t = some .string := by
  obtain ⟨d, hu, e'⟩ := h.und
  rw [hd] at e'
  cases d <;> simp [dsOf] at e'
  rw [hu]
theorem TIok.int {t : Nat} {ti : TI} (h : TIok P t ti) {k : IntKind} (hd : ti.d = .int k) : P.underlying t = some (.int k) := by
  obtain ⟨d, hu, e'⟩ := h.und
  rw [hd] at e'
  cases d <;> simp [dsOf] at e'
  rw [hu, e']
theorem TIok.bool {t : Nat} {ti : TI} (h : TIok P t ti) (hd : ti.d = .bool) : P.underlying t = some .bool := by
  obtain ⟨d, hu, e'⟩ := h.und
  rw [hd] at e'
  cases d <;> simp [dsOf] at e'
  rw [hu]

/-- Some of a value's cells, read as a value of type t. -/
theorem part_sound (htt : TTok P tt) {t : Nat} {cs : List C} {v : V} {vs : List Value} (h : partV tt t cs = some v) (hr : All2 (Rc G w) cs vs) :
    ∃ u, Rv G w v u ∧ ((∀ w', (isAgg t).run P w' = .ok true w') ∧ u = .agg vs.toArray ∨ (∀ w', (isAgg t).run P w' = .ok false w') ∧ vs = [u]) := by
  unfold partV at h
  by_cases ho : (tt.at t).d = .oth
  · rw [ho] at h; cases h
  have T := htt t ho
  obtain ⟨d, hu, ed⟩ := T.und
  split at h
  · cases h
  · rename_i fs hd
    cases h
    obtain ⟨F, hF, _⟩ := T.st hd
    exact ⟨.agg vs.toArray, ⟨vs.toArray, rfl, by simpa using hr⟩, .inl ⟨run_isAgg_st hF, rfl⟩⟩
  · rename_i hd1 hd2
    split at h
    · rename_i c
      cases h
      have hs : isSt (dsOf d) = false := by
        rw [ed]; revert hd2; cases (tt.at t).d <;> simp [isSt]
      cases vs with
      | nil => exact hr.elim
      | cons u us =>
        cases us with
        | nil => exact ⟨u, hr.1, .inr ⟨run_isAgg_not hu hs (by rw [ed]; exact ho), rfl⟩⟩
        | cons _ _ => exact hr.2.elim
    · cases h

theorem run_loadVar_all (htt : TTok P tt) {t : Nat} {cs : List C} {v : V} {vs : List Value} {b o : Nat} (h : partV tt t cs = some v) (hr : All2 (Rc G w) cs vs)
    (hl : cs.length = (tt.at t).size) : ∃ u, (∀ w' : World, (∀ j u, vs[j]? = some u → w'.cell? ⟨b, o + j, none⟩ = some u) → (loadVar t ⟨b, o, none⟩).run P w' = .ok u w') ∧ Rv G w v u := by
  obtain ⟨u, hu, h1 | h1⟩ := part_sound (P := P) htt h hr
  · have ho : (tt.at t).d ≠ .oth := by intro e; unfold partV at h; rw [e] at h; cases h
    have hlen := hr.length
    refine ⟨u, fun w' hc => ?_, hu⟩
    have hcells := run_loadCells_list (P := P) (w := w') ⟨b, o, none⟩ vs (fun j v hv => by rw [Addr.add_plain]; exact hc j v hv)
    rw [← hlen, hl] at hcells
    simp [loadVar, h1.1, (htt t ho).size, hcells, h1.2]
  · refine ⟨u, fun w' hc => ?_, hu⟩
    have h0 := hc 0 u (by rw [h1.2]; rfl)
    simp [loadVar, h1.1, load, Sem.run, show w'.cell? ⟨b, o, none⟩ = some u from h0]
theorem run_loadVar_at (htt : TTok P tt) {t : Nat} {cs : List C} {v : V} {vs : List Value} {b o : Nat} (h : partV tt t cs = some v) (hr : All2 (Rc G w) cs vs)
    (hl : cs.length = (tt.at t).size) (hc : ∀ j u, vs[j]? = some u → w.cell? ⟨b, o + j, none⟩ = some u) : ∃ u, (loadVar t ⟨b, o, none⟩).run P w = .ok u w ∧ Rv G w v u := by
  obtain ⟨u, hu, hr⟩ := run_loadVar_all (P := P) (b := b) (o := o) htt h hr hl
  exact ⟨u, hu w hc, hr⟩

/-- What may be read is as it was: the protected cells, and the objects under H's keys. -/
def Agr (H : Nat → Prop) (G : Gh) (w w' : World) : Prop :=
  (∀ b o, G.S b o → w'.cell? ⟨b, o, none⟩ = w.cell? ⟨b, o, none⟩) ∧ ∀ key b, H key → G.mu key = some b → w'.heap[b]? = w.heap[b]?
theorem Agr.refl (H : Nat → Prop) (G : Gh) (w : World) : Agr H G w w := ⟨fun _ _ _ => rfl, fun _ _ _ _ => rfl⟩

theorem part_run (htt : TTok P tt) {t off : Nat} {cs : List C} {v : V} {vs : Array Value} (h : partV tt t ((cs.drop off).take (tt.at t).size) = some v) (hr : All2 (Rc G w) cs vs.toList)
    (hl : off + (tt.at t).size ≤ cs.length) : ∃ u, (∀ w', (part t vs off).run P w' = .ok u w') ∧ Rv G w v u := by
  have hr' : All2 (Rc G w) ((cs.drop off).take (tt.at t).size) ((vs.toList.drop off).take (tt.at t).size) := (hr.drop off).take _
  have ho : (tt.at t).d ≠ .oth := by intro e; unfold partV at h; rw [e] at h; cases h
  obtain ⟨u, hu, h1 | h1⟩ := part_sound (P := P) htt h hr'
  · refine ⟨u, fun w' => ?_, hu⟩
    simp only [part, Sem.run_bind, h1.1, Result.andThen_ok, if_true, (htt t ho).size, Sem.run_pure, h1.2]
    congr 2
    apply Array.ext'
    simp [List.extract_eq_take_drop]
  · refine ⟨u, fun w' => ?_, hu⟩
    have hg : vs[off]? = some u := by
      have := congrArg (·[0]?) h1.2
      simp only [List.getElem?_take, List.getElem?_drop, Nat.add_zero] at this
      split at this
      · simpa using this
      · simp at this
    simp [part, h1.1, hg]

/-! ### whole numbers -/
theorem inR_tmod (k : IntKind) {x y : Int} (hx : inR k x) (hy : inR k y) : k.wrap (x.tmod y) = x.tmod y := by
  unfold inR at hx hy
  have h1 := Int.natAbs_tmod x y
  by_cases h0 : y = 0
  · subst h0
    rw [Int.tmod_zero]
    revert hx
    cases k <;> simp [IntKind.wrap, IntKind.min, IntKind.max, IntKind.signed, IntKind.bits] <;> (try split) <;> omega
  have hlt : (x.tmod y).natAbs ≤ x.natAbs := by rw [h1]; exact Nat.mod_le _ _
  have hs : 0 ≤ x → 0 ≤ x.tmod y := fun h => Int.tmod_nonneg y h
  have hs' : x ≤ 0 → x.tmod y ≤ 0 := fun h => by
    have := Int.tmod_nonneg y (a := -x) (by omega)
    rw [Int.neg_tmod] at this
    omega
  revert hx
  cases k <;> simp [IntKind.wrap, IntKind.min, IntKind.max, IntKind.signed, IntKind.bits] <;> (try split) <;> omega

theorem inR_fdiv (k : IntKind) {x : Int} (n : Nat) (hx : inR k x) : k.wrap (x.fdiv (2 ^ n)) = x.fdiv (2 ^ n) := by
  unfold inR at hx
  have hp : (0 : Int) < 2 ^ n := Int.pow_pos (by omega)
  have e : x.fdiv (2 ^ n) = x / (2 ^ n) := Int.fdiv_eq_ediv_of_nonneg _ (by omega)
  rw [e]
  have h1 : 0 ≤ x → 0 ≤ x / (2 ^ n) ∧ x / (2 ^ n) ≤ x := fun h => ⟨Int.ediv_nonneg h (by omega), Int.ediv_le_self _ h⟩
  have h2 : x < 0 → x ≤ x / (2 ^ n) ∧ x / (2 ^ n) < 0 := fun h => by
    refine ⟨?_, Int.ediv_neg_of_neg_of_pos h hp⟩
    rw [Int.le_ediv_iff_mul_le hp]
    have : x * 2 ^ n ≤ x * 1 := Int.mul_le_mul_of_nonpos_left (by omega) (by omega)
    omega
  revert hx
  by_cases h0 : 0 ≤ x
  · have := h1 h0
    cases k <;> simp [IntKind.wrap, IntKind.min, IntKind.max, IntKind.signed, IntKind.bits] <;> (try split) <;> omega
  · have := h2 (by omega)
    cases k <;> simp [IntKind.wrap, IntKind.min, IntKind.max, IntKind.signed, IntKind.bits] <;> (try split) <;> omega

theorem intOp_sound {op : BinOp} {k : IntKind} {x y : Int} {chk : Bool} {c : C} (h : intOp op k x y = some (chk, c)) (hc : chk = true) (hx : inR k x) (hy : inR k y) (hs : isSh op = false) (xT : Nat) :
    ∃ u, (∀ w', (binOp op xT (.int k x) (.int k y)).run P w' = .ok u w') ∧ Rc G w c u := by
  subst hc
  cases op <;> simp only [intOp, Option.some.injEq, Prod.mk.injEq, isSh, Bool.true_eq_false, reduceCtorEq] at h hs <;> try (obtain ⟨h1, rfl⟩ := h)
  case quo => exact ⟨_, fun w' => by simp [binOp, Op.intDiv, of_decide_eq_true h1], ⟨rfl, inR_wrap _ _⟩⟩
  case rem => exact ⟨.int k (x.tmod y), fun w' => by simp [binOp, Op.intDiv, of_decide_eq_true h1], ⟨by rw [inR_tmod k hx hy], inR_wrap _ _⟩⟩
  all_goals first
    | exact ⟨_, fun w' => by simp [binOp, Op.intArith, Op.intBits, spAnd, spOr, spXor, spAndNot], ⟨rfl, inR_wrap _ _⟩⟩
    | exact ⟨_, fun w' => by simp [binOp, Op.intCmp], rfl⟩
theorem shOp_sound {op : BinOp} {k k' : IntKind} {x y : Int} {chk : Bool} {c : C} (h : shOp op k x y = some (chk, c)) (hc : chk = true) (hx : inR k x) (xT : Nat) :
    ∃ u, (∀ w', (binOp op xT (.int k x) (.int k' y)).run P w' = .ok u w') ∧ Rc G w c u := by
  subst hc
  cases op <;> simp only [shOp, Option.some.injEq, Prod.mk.injEq, reduceCtorEq] at h <;> (obtain ⟨h1, rfl⟩ := h) <;> have h1 := of_decide_eq_true h1
  · exact ⟨_, fun w' => by simp [binOp, Op.shift, show ¬ y < 0 by omega]; rfl, ⟨rfl, inR_wrap _ _⟩⟩
  · exact ⟨.int k (x.fdiv (2 ^ (min y.toNat k.bits))), fun w' => by simp [binOp, Op.shift, show ¬ y < 0 by omega], ⟨by rw [spShr, inR_fdiv k _ hx], inR_wrap _ _⟩⟩
end

end Go.Proofs.Ytnppjkijhcampaa.Sym
