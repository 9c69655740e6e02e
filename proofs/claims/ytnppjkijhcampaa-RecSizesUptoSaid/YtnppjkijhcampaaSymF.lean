/- Soundness of the operations that only compute: the whole of evP. -/
import Derived.Test.YtnppjkijhcampaaSymE

namespace Go.Proofs.Ytnppjkijhcampaa.Sym
open Go
set_option linter.unusedSimpArgs false
set_option linter.unusedVariables false

section
variable {P : Program} {tt : TT} {G : Gh} {w : World}

theorem szOf_sound (htt : TTok P tt) {t n : Nat} (h : szOf tt t = some n) : TIok P t (tt.at t) ∧ n = (tt.at t).size := by
  unfold szOf at h
  split at h
  · cases h
  · rename_i hd; cases h; exact ⟨htt t hd, rfl⟩
theorem szIs_sound (htt : TTok P tt) {t n : Nat} (h : szIs tt t n = true) : TIok P t (tt.at t) ∧ (tt.at t).size = n ∧ 0 < n := by
  unfold szIs at h
  split at h
  · rename_i m hm
    obtain ⟨h1, rfl⟩ := szOf_sound htt hm
    simp only [Bool.and_eq_true, beq_iff_eq, Bool.not_eq_true', beq_eq_false_iff_ne] at h
    exact ⟨h1, h.1.symm, by omega⟩
  · cases h
theorem fieldOf_sound (htt : TTok P tt) {s f off t sz : Nat} (h : fieldOf tt s f = some (off, t, sz)) :
    ∃ (F : Array Field) (fd : Field), P.underlying s = some (.struct F) ∧ F[f]? = some fd ∧ fd.offset = off ∧ fd.type = t ∧ TIok P t (tt.at t) ∧ sz = (tt.at t).size := by
  unfold fieldOf at h
  split at h
  · rename_i fs hd
    split at h
    · rename_i off' t' hf
      split at h
      · rename_i n hn
        simp only [Option.some.injEq, Prod.mk.injEq] at h
        obtain ⟨rfl, rfl, rfl⟩ := h
        obtain ⟨h1, h2⟩ := szOf_sound htt hn
        obtain ⟨F, hF, hfs⟩ := (htt s (by rw [hd]; simp)).st hd
        rw [← hfs, List.getElem?_map] at hf
        obtain ⟨fd, hfd, he⟩ := Option.map_eq_some_iff.1 hf
        simp only [Prod.mk.injEq] at he
        exact ⟨F, fd, hF, by simpa using hfd, he.1, he.2, h1, h2⟩
      · cases h
    · cases h
  · cases h

theorem Ty.sub_sound {S : Nat → Nat → Prop} {b : Nat} : ∀ (t : Ty) (x : t.den) (f : Nat) (t' : Ty) (x' : t'.den) (o : Nat) (cs : List Value), t.sub x f = some ⟨t', x'⟩ → Rt S w t x cs → At S w b o cs →
    ∃ cs', Rt S w t' x' cs' ∧ At S w b (o + t.offs f) cs'
  | .prod a c, x, 0, t', x', o, cs, h, hr, ha => by
    simp only [Ty.sub, Option.some.injEq, Sigma.mk.injEq] at h
    obtain ⟨rfl, h⟩ := h
    cases h
    obtain ⟨c1, c2, rfl, h1, h2⟩ := hr
    refine ⟨c1, h1, fun j v hv => ?_⟩
    have := ha j v (by rw [List.getElem?_append_left (List.getElem?_eq_some_iff.1 hv).1]; exact hv)
    simpa [Ty.offs] using this
  | .prod a c, x, f + 1, t', x', o, cs, h, hr, ha => by
    simp only [Ty.sub] at h
    obtain ⟨c1, c2, rfl, h1, h2⟩ := hr
    have hlen := Rt.len a _ _ h1
    obtain ⟨cs', h3, h4⟩ := Ty.sub_sound c x.2 f t' x' (o + a.size) c2 h h2 (fun j v hv => by
      have := ha (c1.length + j) v (by rw [List.getElem?_append_right (by omega)]; simpa using hv)
      rw [hlen] at this
      rw [Nat.add_assoc]; exact this)
    exact ⟨cs', h3, by simpa [Ty.offs, Nat.add_assoc] using h4⟩
  | .int _, _, _, _, _, _, _, h, _, _ => by simp [Ty.sub] at h
  | .bool, _, _, _, _, _, _, h, _, _ => by simp [Ty.sub] at h
  | .str, _, _, _, _, _, _, h, _, _ => by simp [Ty.sub] at h
  | .sl _ _, _, _, _, _, _, _, h, _, _ => by simp [Ty.sub] at h
  | .unit, _, _, _, _, _, _, h, _, _ => by simp [Ty.sub] at h

theorem intV_sound {v : V} {k : IntKind} {n : Int} {u : Value} (h : intV v = some (k, n)) (hr : Rv G w v u) : u = .int k n ∧ inR k n := by
  unfold intV at h
  split at h
  · cases h; exact hr
  · cases h

theorem Row.cut {S : Nat → Nat → Prop} {t : Ty} {A : Option Addr} {xs : List t.den} (h : Row S w t A xs) (lo hi : Nat) (hlo : lo ≤ hi) (hhi : hi ≤ xs.length) (cap : Nat) (hcap : hi ≤ cap) :
    Row S w t (if cap = lo then A else A.map (·.add (lo * t.size))) ((xs.take hi).drop lo) := by
  intro hne
  have hlt : lo < hi := by
    rcases Nat.lt_or_ge lo hi with h | h
    · exact h
    · exact absurd (List.drop_of_length_le (by simp; omega)) hne
  have hne' : xs ≠ [] := by rintro rfl; simp at hhi; omega
  obtain ⟨b, o, rfl, hh⟩ := h hne'
  rw [if_neg (by omega)]
  refine ⟨b, o + lo * t.size, by simp [Addr.add_plain], fun i x hx => ?_⟩
  rw [List.getElem?_drop, List.getElem?_take] at hx
  split at hx
  · obtain ⟨c, h1, h2⟩ := hh (lo + i) x hx
    refine ⟨c, h1, ?_⟩
    rw [Nat.add_mul] at h2
    rw [Nat.add_assoc]; exact h2
  · cases hx

/-- The bounds of a slice expression. -/
theorem bound_sound {A : AS} {a : Act} (hop : ∀ x, Rv G w (opd A x) (a.eval x)) {d : Nat} {x : Option Operand} {n : Int} (h : boundV A d x = some n) :
    (x = none ∧ n = d) ∨ ∃ y k, x = some y ∧ a.eval y = .int k n := by
  cases x with
  | none => simp only [boundV, Option.some.injEq] at h; exact .inl ⟨rfl, h.symm⟩
  | some y =>
    simp only [boundV, Option.map_eq_some_iff] at h
    obtain ⟨⟨k, m⟩, h1, rfl⟩ := h
    exact .inr ⟨y, k, rfl, (intV_sound h1 (hop y)).1⟩

theorem run_sliceBound {w : World} {k : IntKind} {n : Int} {y : Nat} (code : BoundsCode) (h0 : 0 ≤ n) (h1 : n ≤ y) : (Instr.sliceBound (.int k n) y code).run P w = .ok n.toNat w := by
  simp [Instr.sliceBound, asIntOf, h0, h1]
theorem run_sliceBounds {w' : World} {A : AS} {a : Act} (hop : ∀ x, Rv G w (opd A x) (a.eval x)) {len cap : Nat} (isS : Bool) {lo hi : Option Operand} {l h : Int} (hl : boundV A 0 lo = some l) (hh : boundV A len hi = some h)
    (h0 : 0 ≤ l) (h1 : l ≤ h) (h2 : h ≤ len) (hlc : len ≤ cap) : (Instr.sliceBounds isS len cap (lo.map a.eval) (hi.map a.eval) none).run P w' = .ok (l.toNat, h.toNat, cap) w' := by
  rcases bound_sound hop hh with ⟨rfl, rfl⟩ | ⟨y, k, rfl, he⟩ <;> rcases bound_sound (d := 0) hop hl with ⟨rfl, rfl⟩ | ⟨y', k', rfl, he'⟩
  · simp [Instr.sliceBounds]
  · simp [Instr.sliceBounds, he', run_sliceBound (P := P) (w := w') (k := k') _ h0 (show l ≤ (len : Int) by omega)]
  · simp [Instr.sliceBounds, he, run_sliceBound (P := P) (w := w') (k := k) _ (show 0 ≤ h by omega) (show h ≤ (cap : Int) by omega)]
  · simp [Instr.sliceBounds, he, he', run_sliceBound (P := P) (w := w') (k := k) _ (show 0 ≤ h by omega) (show h ≤ (cap : Int) by omega),
      run_sliceBound (P := P) (w := w') (k := k') (y := h.toNat) _ h0 (show l ≤ (h.toNat : Int) by omega)]

theorem run_sliceBounds3 {w' : World} {A : AS} {a : Act} (hop : ∀ x, Rv G w (opd A x) (a.eval x)) {len cap : Nat} {lo : Option Operand} {hi : Operand} {m : Operand} {l h n : Int} {k : IntKind} (hl : boundV A 0 lo = some l) (hh : boundV A len (some hi) = some h) (hm : intV (opd A m) = some (k, n))
    (h0 : 0 ≤ l) (h1 : l ≤ h) (h2 : h ≤ n) (h3 : n ≤ len) (hlc : len ≤ cap) : (Instr.sliceBounds true len cap (lo.map a.eval) (some (a.eval hi)) (some (a.eval m))).run P w' = .ok (l.toNat, h.toNat, n.toNat) w' := by
  have hm' := (intV_sound hm (hop m)).1
  rcases bound_sound hop hh with ⟨e, _⟩ | ⟨y, k2, e, he⟩
  · cases e
  · cases e
    rcases bound_sound (d := 0) hop hl with ⟨rfl, rfl⟩ | ⟨y', k', rfl, he'⟩
    · simp [Instr.sliceBounds, he, hm', run_sliceBound (P := P) (w := w') (k := k) (y := cap) _ (show 0 ≤ n by omega) (show n ≤ (cap : Int) by omega),
        run_sliceBound (P := P) (w := w') (k := k2) (y := n.toNat) _ (show 0 ≤ h by omega) (show h ≤ (n.toNat : Int) by omega)]
    · simp [Instr.sliceBounds, he, he', hm', run_sliceBound (P := P) (w := w') (k := k) (y := cap) _ (show 0 ≤ n by omega) (show n ≤ (cap : Int) by omega),
        run_sliceBound (P := P) (w := w') (k := k2) (y := n.toNat) _ (show 0 ≤ h by omega) (show h ≤ (n.toNat : Int) by omega),
        run_sliceBound (P := P) (w := w') (k := k') (y := h.toNat) _ h0 (show l ≤ (h.toNat : Int) by omega)]

theorem capOf_sound {A : AS} {a : Act} (hop : ∀ x, Rv G w (opd A x) (a.eval x)) {x : Operand} {c : Cp} (h : capOf A x = some c) : Rcp G w c (a.eval x) := by
  unfold capOf at h
  split at h
  · rename_i t
    have hx := hop (.tmp t)
    simp only [opd] at hx
    split at h <;> rename_i e <;> first | (cases h; done) | (cases h; rw [e] at hx)
    · exact hx
    · exact ⟨by rw [hx.1], hx.2⟩
    · simp only [Rcp, Rt]; rw [show a.eval (.tmp t) = _ from hx]
    · exact ⟨by rw [hx.1], hx.2⟩
    · obtain ⟨A', cap, e1, h1, h2, h3, _⟩ := hx
      exact ⟨A', cap, by rw [e1], h1, h2, h3⟩
  · cases h
theorem capsOf_sound {A : AS} {a : Act} (hop : ∀ x, Rv G w (opd A x) (a.eval x)) : ∀ {xs : List Operand} {cs : List Cp}, capsOf A xs = some cs → All2 (Rcp G w) cs (xs.map a.eval)
  | [], _, h => by simp only [capsOf, Option.some.injEq] at h; subst h; trivial
  | x :: xs, cs, h => by
    simp only [capsOf] at h
    split at h
    · rename_i c cs' h1 h2
      cases h
      exact ⟨capOf_sound hop h1, capsOf_sound hop h2⟩
    · cases h

theorem splice_length {α : Type} {cs new : List α} {off : Nat} (h : off + new.length ≤ cs.length) : (splice cs off new).length = cs.length := by
  simp [splice]; omega
theorem All2.splice {α β : Type} {R : α → β → Prop} {as as' : List α} {bs bs' : List β} (off : Nat) (h : All2 R as bs) (h' : All2 R as' bs') : All2 R (splice as off as') (splice bs off bs') := by
  unfold Sym.splice
  rw [h'.length]
  exact ((h.take off).append h').append (h.drop _)

/-- The model's way of putting a field's cells in. -/
theorem foldl_set (vs : List Value) : ∀ (cs : Array Value) (off j : Nat), off + j + vs.length ≤ cs.size →
    ((vs.zipIdx j).foldl (fun cs (c, j) => cs.setIfInBounds (off + j) c) cs).toList = splice cs.toList (off + j) vs := by
  induction vs with
  | nil => intro cs off j h; simp [splice]
  | cons v vs ih =>
    intro cs off j h
    simp only [List.length_cons] at h
    rw [List.zipIdx_cons, List.foldl_cons, ih _ off (j + 1) (by simp; omega)]
    have hs : cs.toList.length = cs.size := by simp
    have h1 : (cs.toList.set (off + j) v).take (off + j + 1) = cs.toList.take (off + j) ++ [v] := by
      rw [List.take_succ_eq_append_getElem (by simp; omega)]
      simp [List.take_set_of_le]
    have h2 : (cs.toList.set (off + j) v).drop (off + j + 1 + vs.length) = cs.toList.drop (off + j + 1 + vs.length) := List.drop_set_of_lt (by omega)
    simp only [splice, Array.toList_setIfInBounds, List.length_cons, ← Nat.add_assoc]
    rw [h1, h2]
    simp [Nat.add_assoc, Nat.add_comm 1]
end

end Go.Proofs.Ytnppjkijhcampaa.Sym
