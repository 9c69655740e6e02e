/- Soundness of the operations that touch memory. -/
import Derived.Test.YtnppjkijhcampaaSymH
import Derived.Lib.AppendStr

namespace Go.Proofs.Ytnppjkijhcampaa.Sym
open Go
set_option linter.unusedSimpArgs false
set_option linter.unusedVariables false

/-! ## rows of cells -/
def Rows (S : Nat → Nat → Prop) (w : World) (t : Ty) (b o : Nat) (xs : List t.den) : Prop :=
  ∀ i x, xs[i]? = some x → ∃ c, Rt S w t x c ∧ At S w b (o + i * t.size) c

theorem Rows.row {S : Nat → Nat → Prop} {w : World} {t : Ty} {b o : Nat} {xs : List t.den} (h : Rows S w t b o xs) : Row S w t (some ⟨b, o, none⟩) xs := fun _ => ⟨b, o, rfl, h⟩

theorem flat_get {α : Type} {n : Nat} : ∀ (css : List (List α)), (∀ c ∈ css, c.length = n) → ∀ i j, j < n → css.flatten[i * n + j]? = css[i]?.bind (·[j]?)
  | [], _, i, j, _ => by simp
  | c :: css, h, 0, j, hj => by
    have hc : c.length = n := h c (by simp)
    simp [List.flatten_cons, List.getElem?_append_left (show j < c.length by omega)]
  | c :: css, h, i + 1, j, hj => by
    have hc : c.length = n := h c (by simp)
    rw [List.flatten_cons, List.getElem?_append_right (by rw [hc, Nat.add_mul]; omega)]
    have := flat_get css (fun c hc => h c (by simp [hc])) i j hj
    rw [hc, show (i + 1) * n + j - n = i * n + j by rw [Nat.add_mul]; omega, this]
    simp
theorem flat_length {α : Type} {n : Nat} : ∀ (css : List (List α)), (∀ c ∈ css, c.length = n) → css.flatten.length = css.length * n
  | [], _ => by simp
  | c :: css, h => by
    rw [List.flatten_cons, List.length_append, flat_length css (fun c hc => h c (by simp [hc])), h c (by simp), List.length_cons, Nat.add_mul]; omega

/-- Cells that stand for a list, one piece for each element. -/
structure Flat (S : Nat → Nat → Prop) (w : World) (t : Ty) (xs : List t.den) (css : List (List Value)) : Prop where
  len : css.length = xs.length
  at_ : ∀ (i : Nat) (x : t.den), xs[i]? = some x → ∃ c : List Value, css[i]? = some c ∧ Rt S w t x c
theorem Flat.size {S : Nat → Nat → Prop} {w : World} {t : Ty} {xs : List t.den} {css : List (List Value)} (h : Flat S w t xs css) : ∀ c ∈ css, c.length = t.size := by
  intro c hc
  obtain ⟨i, hi⟩ := List.getElem?_of_mem hc
  have hlt : i < xs.length := by rw [← h.len]; exact (List.getElem?_eq_some_iff.1 hi).1
  obtain ⟨c', hc', hr⟩ := h.at_ i xs[i] (List.getElem?_eq_getElem hlt)
  rw [hi] at hc'; cases hc'
  exact Rt.len _ _ _ hr
theorem Flat.one {S : Nat → Nat → Prop} {w : World} {t : Ty} {xs : List t.den} {css : List (List Value)} (h : Flat S w t xs css) : ∀ u ∈ css.flatten, u.oneCell' = true := by
  intro u hu
  obtain ⟨c, hc, huc⟩ := List.mem_flatten.1 hu
  obtain ⟨i, hi⟩ := List.getElem?_of_mem hc
  have hlt : i < xs.length := by rw [← h.len]; exact (List.getElem?_eq_some_iff.1 hi).1
  obtain ⟨c', hc', hr⟩ := h.at_ i xs[i] (List.getElem?_eq_getElem hlt)
  rw [hi] at hc'; cases hc'
  exact Rt.cell _ _ _ hr u huc
theorem Flat.kept {S S' : Nat → Nat → Prop} {w w' : World} {t : Ty} {xs : List t.den} {css : List (List Value)} (h : Flat S w t xs css) (k : Kept S S' w w') : Flat S' w' t xs css :=
  ⟨h.len, fun i x hx => let ⟨c, hc, hr⟩ := h.at_ i x hx; ⟨c, hc, Rt.kept k t x c hr⟩⟩
theorem Flat.append {S : Nat → Nat → Prop} {w : World} {t : Ty} {xs ys : List t.den} {css dss : List (List Value)} (h : Flat S w t xs css) (h' : Flat S w t ys dss) : Flat S w t (xs ++ ys) (css ++ dss) where
  len := by rw [List.length_append, List.length_append, h.len, h'.len]
  at_ := fun i x hx => by
    rw [List.getElem?_append] at hx ⊢
    rw [h.len]
    split at hx
    · rename_i hlt; rw [if_pos hlt]; exact h.at_ i x hx
    · rename_i hlt; rw [if_neg hlt]; exact h'.at_ _ x hx
theorem Flat.rows {S : Nat → Nat → Prop} {w : World} {t : Ty} {xs : List t.den} {css : List (List Value)} (h : Flat S w t xs css) {b o : Nat}
    (hc : ∀ j v, css.flatten[j]? = some v → S b (o + j) ∧ w.cell? ⟨b, o + j, none⟩ = some v) : Rows S w t b o xs := by
  intro i x hx
  obtain ⟨c, hci, hr⟩ := h.at_ i x hx
  refine ⟨c, hr, fun j v hv => ?_⟩
  have hj : j < t.size := by rw [← Rt.len _ _ _ hr]; exact (List.getElem?_eq_some_iff.1 hv).1
  have := hc (i * t.size + j) v (by rw [flat_get css h.size i j hj, hci]; exact hv)
  rw [Nat.add_assoc]; exact this
theorem Row.flat {S : Nat → Nat → Prop} {w : World} {t : Ty} {A : Option Addr} {xs : List t.den} (h : Row S w t A xs) :
    ∃ css, Flat S w t xs css ∧ (xs ≠ [] → ∃ b o, A = some ⟨b, o, none⟩ ∧ ∀ j v, css.flatten[j]? = some v → S b (o + j) ∧ w.cell? ⟨b, o + j, none⟩ = some v) := by
  by_cases hne : xs = []
  · subst hne
    exact ⟨[], ⟨rfl, fun i x hx => by simp at hx⟩, fun h => absurd rfl h⟩
  · obtain ⟨b, o, rfl, hh⟩ := h hne
    let css := (List.range xs.length).map fun i => (List.range t.size).map fun j => (w.cell? ⟨b, o + i * t.size + j, none⟩).getD undef
    have hF : Flat S w t xs css := by
      refine ⟨by simp [css], fun i x hx => ?_⟩
      obtain ⟨c, hr, ha⟩ := hh i x hx
      have hi : i < xs.length := (List.getElem?_eq_some_iff.1 hx).1
      refine ⟨c, ?_, hr⟩
      simp only [css, List.getElem?_map, List.getElem?_range hi, Option.map_some, Option.some.injEq]
      apply List.ext_getElem?
      intro j
      rw [List.getElem?_map]
      by_cases hj : j < t.size
      · have hjc : j < c.length := by rw [Rt.len _ _ _ hr]; exact hj
        rw [List.getElem?_range hj, List.getElem?_eq_getElem hjc, Option.map_some, (ha j _ (List.getElem?_eq_getElem hjc)).2]
        rfl
      · rw [List.getElem?_eq_none (by simp; omega), List.getElem?_eq_none (by rw [Rt.len _ _ _ hr]; omega)]
        rfl
    refine ⟨css, hF, fun _ => ⟨b, o, rfl, fun j v hv => ?_⟩⟩
    have hl := flat_length css hF.size
    have hjl : j < css.length * t.size := by rw [← hl]; exact (List.getElem?_eq_some_iff.1 hv).1
    have hpos : 0 < t.size := by
      rcases Nat.eq_zero_or_pos t.size with h0 | h0
      · rw [h0] at hjl; omega
      · exact h0
    have hi : j / t.size < xs.length := by rw [← hF.len]; exact Nat.div_lt_of_lt_mul (by rw [Nat.mul_comm]; exact hjl)
    obtain ⟨c, hr, ha⟩ := hh (j / t.size) xs[j / t.size] (List.getElem?_eq_getElem hi)
    obtain ⟨c', hc', hr'⟩ := hF.at_ (j / t.size) xs[j / t.size] (List.getElem?_eq_getElem hi)
    have hm : j % t.size < t.size := Nat.mod_lt _ hpos
    have hdm : j / t.size * t.size + j % t.size = j := by rw [Nat.mul_comm]; exact Nat.div_add_mod j t.size
    have hg := flat_get css hF.size (j / t.size) (j % t.size) hm
    rw [hdm, hv, hc'] at hg
    have hmc : j % t.size < c.length := by rw [Rt.len _ _ _ hr]; exact hm
    have hac := ha (j % t.size) _ (List.getElem?_eq_getElem hmc)
    rw [Nat.add_assoc, hdm] at hac
    refine ⟨hac.1, ?_⟩
    have hv' : c'[j % t.size]? = some v := hg.symm
    have : c' = (List.range t.size).map fun k => (w.cell? ⟨b, o + j / t.size * t.size + k, none⟩).getD undef := by
      simp only [css, List.getElem?_map, List.getElem?_range hi, Option.map_some, Option.some.injEq] at hc'
      exact hc'.symm
    rw [this, List.getElem?_map, List.getElem?_range hm, Option.map_some, Nat.add_assoc, hdm, hac.2] at hv'
    rw [hac.2]
    simpa using hv'

/-! ## append -/
section
variable {P : Program} {w : World}

/-- Nothing is appended. -/
theorem run_append_zero {t tx ty e : TypeId} {i : TypeInfo} {d : TypeDesc} (ht : P.underlying t = some (.slice e)) (hi : P.info? e = some i) (htx : P.underlying tx = some d) (hd : (∃ e', d = .slice e') ∨ d = .string)
    (A : Option Addr) (len cap : Nat) (hl : len ≤ cap) (x : Value) (hlen : Builtin.lenOf x = Sem.pure 0) (hf : (Builtin.firstCells i.size 0 x).run P w = .ok #[] w) :
    (Builtin.append_ #[t, tx] ty #[.slice A len cap, x]).run P w = .ok (.slice A len cap) w := by
  rcases hd with ⟨e', rfl⟩ | rfl
  · cases A with
    | none => simp [Builtin.append_, run_underlying ht, run_underlying htx, sizeOf, run_typeInfo hi, hlen, hl, hf]
    | some a => simp [Builtin.append_, run_underlying ht, run_underlying htx, sizeOf, run_typeInfo hi, hlen, hl, hf, storeCells]
  · cases A with
    | none => simp [Builtin.append_, run_underlying ht, run_underlying htx, sizeOf, run_typeInfo hi, hlen, hl, hf]
    | some a => simp [Builtin.append_, run_underlying ht, run_underlying htx, sizeOf, run_typeInfo hi, hlen, hl, hf, storeCells]
/-- There is room. -/
theorem run_append_fit {t tx ty e : TypeId} {i : TypeInfo} {d : TypeDesc} (ht : P.underlying t = some (.slice e)) (hi : P.info? e = some i) (htx : P.underlying tx = some d) (hd : (∃ e', d = .slice e') ∨ d = .string)
    (g len cap n : Nat) (cur : Array Value) (el : TypeId) (hg : w.heap[g]? = some (.cells cur el (0, 0))) (x : Value) (news : List Value) (hlen : Builtin.lenOf x = Sem.pure n)
    (hf : (Builtin.firstCells i.size n x).run P w = .ok news.toArray w) (h1 : ∀ u ∈ news, u.oneCell' = true) (hroom : len + n ≤ cap) (hfit : len * i.size + news.length ≤ cur.size) :
    (Builtin.append_ #[t, tx] ty #[.slice (some ⟨g, 0, none⟩) len cap, x]).run P w =
      .ok (.slice (some ⟨g, 0, none⟩) (len + n) cap) (w.setRow g (cur.toList.take (len * i.size) ++ news ++ cur.toList.drop (len * i.size + news.length)).toArray) := by
  have hst := run_storeCells_at P g (len * i.size) el news 0 cur w hg (by simpa using hfit) h1
  simp only [Nat.add_zero] at hst
  rcases hd with ⟨e', rfl⟩ | rfl
  · simp [Builtin.append_, run_underlying ht, run_underlying htx, sizeOf, run_typeInfo hi, hlen, hroom, hf, Addr.add_plain, hst]
  · simp [Builtin.append_, run_underlying ht, run_underlying htx, sizeOf, run_typeInfo hi, hlen, hroom, hf, Addr.add_plain, hst]
/-- A new row is made. -/
theorem run_append_new {t tx ty e : TypeId} {i : TypeInfo} {d : TypeDesc} {z : Value} (ht : P.underlying t = some (.slice e)) (hi : P.info? e = some i) (hz : i.zero = some z) (htx : P.underlying tx = some d) (hd : (∃ e', d = .slice e') ∨ d = .string)
    (A : Option Addr) (len cap n : Nat) (olds : List Value) (holds : (Builtin.firstCells i.size len (.slice A len cap)).run P w.drew = .ok olds.toArray w.drew)
    (x : Value) (news : List Value) (hlen : Builtin.lenOf x = Sem.pure n) (hf : (Builtin.firstCells i.size n x).run P w.drew = .ok news.toArray w.drew)
    (hg : cap < len + n) (h63 : ((len + n : Nat) : Int) ≤ 9223372036854775807) (hfit : Builtin.nextslicecap (len + n) cap * i.bytes ≤ 281474976710656) :
    (Builtin.append_ #[t, tx] ty #[.slice A len cap, x]).run P w =
      .ok (.slice (some ⟨w.heap.size, 0, none⟩) (len + n) (grownCap w (len + n) cap e))
        (w.drew.alloc (.cells (olds.toArray ++ news.toArray ++ Builtin.zeroCells z.cells (grownCap w (len + n) cap e - (len + n))) e)) := by
  have hn : ¬ (len + n ≤ cap) := by omega
  have h63' : ¬ (9223372036854775807 < ((len : Int) + (n : Int))) := by omega
  have h48' : ¬ (281474976710656 < Builtin.nextslicecap (len + n) cap * i.bytes) := by omega
  rcases hd with ⟨e', rfl⟩ | rfl
  · simp [Builtin.append_, run_underlying ht, run_underlying htx, sizeOf, run_typeInfo hi, zeroValue, hz, hlen, hn, h63', h48', Question.forced, hf, holds, newRow, grownCap]
    congr 2
    apply Array.ext'
    simp
  · simp [Builtin.append_, run_underlying ht, run_underlying htx, sizeOf, run_typeInfo hi, zeroValue, hz, hlen, hn, h63', h48', Question.forced, hf, holds, newRow, grownCap]
    congr 2
    apply Array.ext'
    simp
end

end Go.Proofs.Ytnppjkijhcampaa.Sym
