/- What rec.Put writes, rec.Get reads. -/
import Derived.Test.YtnppjkijhcampaaCLonly

namespace Go.Proofs.Ytnppjkijhcampaa.Sym
open Go
set_option linter.unusedSimpArgs false
set_option linter.unusedVariables false
noncomputable section

theorem dig_can : ∀ (n : Nat) (u : Int) (f : Bool), 0 ≤ u → u < 128 ^ (n + 1) → (f = true → 1 ≤ u) → Can f (spHi n u ++ [spLo n u]) ∧ spVal (spHi n u ++ [spLo n u]) = u ∧ (spHi n u ++ [spLo n u]).length ≤ n + 1
  | 0, u, f, h0, h1, hf => by
    have h1 : u < 128 := h1
    refine ⟨⟨h0, h1, fun h => by have := hf h; show u ≠ 0; omega⟩, ?_, by simp [spHi]⟩
    show u % 128 + 128 * 0 = u
    omega
  | n + 1, u, f, h0, h1, hf => by
    by_cases h : 127 < u
    · rw [Int.pow_succ] at h1
      obtain ⟨g1, g2, g3⟩ := dig_can n (u / 128) true (by omega) (Int.ediv_lt_of_lt_mul (by omega) h1) (fun _ => by omega)
      have e : spHi (n + 1) u ++ [spLo (n + 1) u] = (u % 128 + 128) :: (spHi n (u / 128) ++ [spLo n (u / 128)]) := by
        rw [spHi, spLo, if_pos h, if_pos h, List.cons_append]
      rw [e]
      obtain ⟨d, l, hl⟩ : ∃ d l, spHi n (u / 128) ++ [spLo n (u / 128)] = d :: l := by
        cases hx : spHi n (u / 128) ++ [spLo n (u / 128)] with
        | nil => simp at hx
        | cons d l => exact ⟨d, l, rfl⟩
      rw [hl] at g1 g2 g3 ⊢
      refine ⟨⟨by omega, by omega, g1⟩, ?_, by simp at g3 ⊢; omega⟩
      show (u % 128 + 128) % 128 + 128 * spVal (d :: l) = u
      rw [g2]
      omega
    · have e : spHi (n + 1) u ++ [spLo (n + 1) u] = [u] := by
        rw [spHi, spLo, if_neg h, if_neg h]; rfl
      rw [e]
      refine ⟨⟨h0, by omega, fun h => by have := hf h; omega⟩, ?_, by simp⟩
      show u % 128 + 128 * 0 = u
      omega
theorem spDig_can {u : Int} (h0 : 0 ≤ u) (h : u < 18446744073709551616) : Can false (spDig u) ∧ spVal (spDig u) = u ∧ 0 < (spDig u).length :=
  have g := dig_can 10 u false h0 (Int.lt_of_lt_of_le h (by decide)) (fun h => by cases h)
  ⟨g.1, g.2.1, by simp [spDig]⟩
theorem spRd_of_can (most : Nat) (top : Int) (ht : top < 128) : ∀ (l rest : List Int) (i : Nat), Can (decide (0 < i)) l → i < most → spVal l < 128 ^ (most - 1 - i) * (top + 1) → spRd most top (l ++ rest) i = (((i + l.length - 1 : Nat) : Int), 0)
  | [], rest, i, hc, _, _ => hc.elim
  | [c], rest, i, hc, hi, hv => by
    obtain ⟨h1, h2, h3⟩ := hc
    have e : spVal [c] = c := by simp only [spVal]; omega
    rw [e] at hv
    simp only [List.cons_append, List.nil_append, spRd]
    have hn : ¬ (i + 1 = most ∧ top < c) := by
      rintro ⟨h4, h5⟩
      rw [show most - 1 - i = 0 by omega] at hv
      simp at hv
      omega
    have hz : ¬ (c = 0 ∧ 0 < i) := fun h => h3 (by simpa using h.2) h.1
    rw [if_neg hn, if_pos h2, if_neg hz]
    simp
  | c :: d :: l, rest, i, hc, hi, hv => by
    obtain ⟨h1, h2, h3⟩ := hc
    have hp := h3.pos
    have e : spVal (c :: d :: l) = c % 128 + 128 * spVal (d :: l) := rfl
    rw [e] at hv
    have hne : i + 1 < most := by
      rcases Nat.lt_or_ge (i + 1) most with h | h
      · exact h
      · rw [show most - 1 - i = 0 by omega] at hv
        simp at hv
        omega
    obtain ⟨j, hj⟩ : ∃ j, most - 1 - i = j + 1 := ⟨most - 2 - i, by omega⟩
    rw [hj, Int.pow_succ] at hv
    have e2 : (128 : Int) ^ j * 128 * (top + 1) = 128 * (128 ^ j * (top + 1)) := by rw [Int.mul_comm (128 ^ j) 128, Int.mul_assoc]
    rw [e2] at hv
    have ih := spRd_of_can most top ht (d :: l) rest (i + 1) (by simpa using h3) hne (by rw [show most - 1 - (i + 1) = j by omega]; omega)
    rw [List.cons_append, spRd, if_neg (fun h => by omega), if_neg (by omega), ih]
    simp only [List.length_cons, Prod.mk.injEq, and_true]
    congr 1
    omega
/-- A beginning of such bytes isn't enough. -/
theorem spRd_cut (most : Nat) (top : Int) : ∀ (l y : List Int) (i : Nat), y ≠ [] → (∃ f, Can f (l ++ y)) → i + (l ++ y).length ≤ most → spRd most top l i = (0, 1)
  | [], y, i, hy, _, _ => rfl
  | c :: l, y, i, hy, ⟨f, hc⟩, hl => by
    have hc' : 128 ≤ c ∧ c ≤ 255 ∧ Can true (l ++ y) := by
      cases hx : l ++ y with
      | nil => simp at hx; exact absurd hx.2 hy
      | cons d l' =>
        rw [List.cons_append, hx] at hc
        exact hc
    have hlen : 0 < y.length := List.length_pos_iff.2 hy
    simp only [List.cons_append, List.length_cons, List.length_append] at hl
    rw [spRd, if_neg (fun h => by omega), if_neg (by omega)]
    exact spRd_cut most top l y (i + 1) hy ⟨true, hc'.2.2⟩ (by rw [List.length_append]; omega)

/-- X stands in b from place p on. -/
def Has (b : List Int) (p : Int) (X : List Int) : Prop := 0 ≤ p ∧ p ≤ b.length ∧ ∃ rest, b.drop p.toNat = X ++ rest
theorem Has.left {b : List Int} {p : Int} {X Y : List Int} (h : Has b p (X ++ Y)) : Has b p X := by
  obtain ⟨h0, h1, rest, h2⟩ := h
  exact ⟨h0, h1, Y ++ rest, by rw [h2, List.append_assoc]⟩
theorem Has.len {b : List Int} {p : Int} {X : List Int} (h : Has b p X) : p + X.length ≤ b.length := by
  obtain ⟨h0, h1, rest, h2⟩ := h
  have := congrArg List.length h2
  simp only [List.length_drop, List.length_append] at this
  omega
theorem Has.right {b : List Int} {p : Int} {X Y : List Int} (h : Has b p (X ++ Y)) : Has b (p + X.length) Y := by
  have hl := h.left.len
  obtain ⟨h0, h1, rest, h2⟩ := h
  refine ⟨by omega, hl, rest, ?_⟩
  rw [show (p + X.length).toNat = p.toNat + X.length by omega, ← List.drop_drop, h2, List.append_assoc, List.drop_left]
theorem Has.take {b : List Int} {p : Int} {X : List Int} (h : Has b p X) : (b.drop p.toNat).take X.length = X := by
  obtain ⟨h0, h1, rest, h2⟩ := h
  rw [h2, List.take_left]

theorem spGet_at {most : Nat} {top : Int} (ht : top < 128) (hm : 0 < most) (hB : 128 ^ (most - 1) * (top + 1) ≤ 18446744073709551616) {b : List Int} {p u : Int} (h0 : 0 ≤ u) (hu : u < 128 ^ (most - 1) * (top + 1)) (h : Has b p (spDig u)) :
    spGet most top b p = (u, p + (spDig u).length, 0) := by
  obtain ⟨hp, hl, rest, hd⟩ := h
  obtain ⟨c1, c2, c3⟩ := spDig_can h0 (by omega)
  have hr := spRd_of_can most top ht (spDig u) rest 0 c1 hm (by rw [c2]; simpa using hu)
  have e1 : ((0 + (spDig u).length - 1 : Nat) : Int) = (spDig u).length - 1 := by omega
  rw [e1] at hr
  unfold spGet
  rw [if_neg (by omega), hd, hr, if_pos rfl]
  simp only
  rw [show ((spDig u).length - 1 + 1 : Int).toNat = (spDig u).length by omega, List.take_left, c2, Int.emod_eq_of_lt h0 (by omega), show p + ((spDig u).length - 1) + 1 = p + (spDig u).length by omega]
theorem zag_zig {v : Int} : spZag (spZig v) = v := by
  unfold spZig spZag
  split <;> split <;> omega
theorem spNum_at {b : List Int} {p v : Int} (h1 : -2147483648 ≤ v) (h2 : v ≤ 2147483647) (h : Has b p (spDig (spZig v))) : spNum b p = (v, p + (spDig (spZig v)).length, 0) := by
  have hz : 0 ≤ spZig v ∧ spZig v < 4294967296 := by unfold spZig; split <;> omega
  have e := spGet_at (most := 5) (top := 15) (by decide) (by decide) (by decide) hz.1 hz.2 h
  unfold spNum
  rw [e]
  simp only
  rw [zag_zig, wrap_id (k := .i32) (inR_i32.2 ⟨h1, h2⟩)]
theorem spLong_at {b : List Int} {p v : Int} (h1 : -9223372036854775808 ≤ v) (h2 : v ≤ 9223372036854775807) (h : Has b p (spDig (spZig v))) : spGet 10 1 b p = (spZig v, p + (spDig (spZig v)).length, 0) := by
  have hz : 0 ≤ spZig v ∧ spZig v < 18446744073709551616 := by unfold spZig; split <;> omega
  exact spGet_at (most := 10) (top := 1) (by decide) (by decide) (by decide) hz.1 hz.2 h
theorem spTake_at {b : List Int} {p l : Int} {B : Blob} (hb : spBad B = false) (hl : B.2.1.length ≤ 2147483647) (hll : l = -1 ∨ l = 0 ∧ B.1 = false) (h : Has b p (spBlob B)) : spTake b p l = (B, p + (spBlob B).length, 0) := by
  obtain ⟨n, x, ⟨⟩⟩ := B
  cases n with
  | true =>
    have hx : x = [] := by
      cases x with
      | nil => rfl
      | cons c l => simp [spBad] at hb
    subst hx
    have hl1 : l = -1 := by rcases hll with h | ⟨_, h⟩; exact h; cases h
    have e : spBlob (true, [], ()) = spDig (spZig (-1)) := rfl
    rw [e] at h ⊢
    have hn := spNum_at (by decide) (by decide) h
    unfold spTake
    rw [hn, hl1]
    rfl
  | false =>
    have e : spBlob (false, x, ()) = spDig (spZig x.length) ++ x := rfl
    rw [e] at h ⊢
    have hl : x.length ≤ 2147483647 := hl
    have hn := spNum_at (by omega) (by omega) h.left
    have hx := h.right
    have hle := hx.len
    unfold spTake
    rw [hn]
    simp only
    rw [if_neg (by simp), if_neg (by rcases hll with h | ⟨h, _⟩ <;> omega), if_neg (by omega), if_neg (by omega), Int.toNat_natCast, hx.take]
    simp only [List.length_append, Prod.mk.injEq, and_true, true_and]
    omega
theorem spHeadsN_at {b : List Int} : ∀ (hs : List Head) (o : List Head) (p : Int), spHErr hs = 0 → (∀ h ∈ hs, h.1.length ≤ 2147483647 ∧ h.2.1.2.1.length ≤ 2147483647) → Has b p (spWHeads hs) →
    spHeadsN b hs.length o p = (o ++ hs, p + (spWHeads hs).length, 0)
  | [], o, p, _, _, _ => by simp [spHeadsN, spWHeads]
  | h :: hs, o, p, he, hl, hH => by
    obtain ⟨k, v, ⟨⟩⟩ := h
    have hkl := hl _ (by simp : (k, v, ()) ∈ (k, v, ()) :: hs)
    unfold spHErr at he
    by_cases h1 : (spUtf k).2 = false
    · rw [if_pos h1] at he; cases he
    rw [if_neg h1] at he
    by_cases h2 : spBad v = true
    · rw [if_pos h2] at he; cases he
    rw [if_neg h2] at he
    have eW : spWHeads ((k, v, ()) :: hs) = spBlob (false, k, ()) ++ (spBlob v ++ spWHeads hs) := by
      simp [spWHeads, spWHead, spBlob]
    rw [eW] at hH ⊢
    have t1 := spTake_at (l := 0) (B := (false, k, ())) (by simp [spBad]) hkl.1 (.inr ⟨rfl, rfl⟩) hH.left
    have t2 := spTake_at (l := -1) (by simpa using h2) hkl.2 (.inl rfl) hH.right.left
    have eH : spHead b p = ((k, v, ()), p + (spBlob (false, k, ())).length + (spBlob v).length, 0) := by
      unfold spHead
      rw [t1]
      simp only
      rw [t2, if_neg (by simp), if_neg h1]
    rw [List.length_cons, spHeadsN_succ, eH, if_neg (by simp)]
    simp only
    rw [spHeadsN_at hs _ _ he (fun h hh => hl h (by simp [hh])) (by have := hH.right.right; simpa [Int.add_assoc] using this)]
    simp only [List.append_assoc, List.singleton_append, Prod.mk.injEq, and_true, true_and, List.length_append]
    push_cast
    omega

/-- Data as a row of the program has them. -/
structure RowOk (r : RowD) : Prop where
  time : -9223372036854775808 ≤ r.1 ∧ r.1 ≤ 9223372036854775807
  off : -2147483648 ≤ r.2.1 ∧ r.2.1 ≤ 2147483647
theorem spRow_at {r : RowD} (hr : RowOk r) (hs : spShape r = 0) (hl : (spBody r).length ≤ 16384) : spRow (spBody r) = (r, 0) := by
  obtain ⟨a0, a1, B1, B2, hs0, ⟨⟩⟩ := r
  have eS : spShape (a0, a1, B1, B2, hs0, ()) = if a1 < 0 then 72 else if spBad B1 = true ∨ spBad B2 = true then 70 else if 16 < (hs0.length : Int) then 9 else spHErr hs0 := rfl
  rw [eS] at hs
  by_cases s1 : a1 < 0
  · rw [if_pos s1] at hs; cases hs
  rw [if_neg s1] at hs
  by_cases s2 : spBad B1 = true ∨ spBad B2 = true
  · rw [if_pos s2] at hs; cases hs
  rw [if_neg s2] at hs
  by_cases s3 : 16 < (hs0.length : Int)
  · rw [if_pos s3] at hs; cases hs
  rw [if_neg s3] at hs
  have sb1 : spBad B1 = false := by cases h : spBad B1 with | false => rfl | true => exact absurd (.inl h) s2
  have sb2 : spBad B2 = false := by cases h : spBad B2 with | false => rfl | true => exact absurd (.inr h) s2
  have eb : spBody (a0, a1, B1, B2, hs0, ()) = [0] ++ (spDig (spZig a0) ++ (spDig (spZig a1) ++ (spBlob B1 ++ (spBlob B2 ++ (spDig (spZig hs0.length) ++ spWHeads hs0))))) := rfl
  generalize hb : spBody (a0, a1, B1, B2, hs0, ()) = b at *
  have hblob : ∀ B : Blob, B.2.1.length ≤ (spBlob B).length ∨ spBad B = true ∨ B.2.1 = [] := by
    rintro ⟨n, x, ⟨⟩⟩
    cases n with
    | true =>
      cases x with
      | nil => exact .inr (.inr rfl)
      | cons c l => exact .inr (.inl (by simp [spBad]))
    | false => exact .inl (by show x.length ≤ (spDig (spZig x.length) ++ x).length; simp)
  have hll := hl
  rw [eb] at hll
  simp only [List.length_append] at hll
  have hl1 : B1.2.1.length ≤ 2147483647 := by
    rcases hblob B1 with h | h | h
    · omega
    · rw [sb1] at h; cases h
    · rw [h]; simp
  have hl2 : B2.2.1.length ≤ 2147483647 := by
    rcases hblob B2 with h | h | h
    · omega
    · rw [sb2] at h; cases h
    · rw [h]; simp
  have hlh : ∀ h ∈ hs0, h.1.length ≤ 2147483647 ∧ h.2.1.2.1.length ≤ 2147483647 := by
    intro h hh
    have hlen : (spWHead h).length ≤ (spWHeads hs0).length := by
      obtain ⟨s, t, rfl⟩ := List.append_of_mem hh
      simp [spWHeads]
      omega
    have hw : (spWHead h).length = (spDig (spZig h.1.length)).length + (h.1.length + (spBlob h.2.1).length) := by simp [spWHead]
    refine ⟨by omega, ?_⟩
    rcases hblob h.2.1 with h' | h' | h'
    · omega
    · have : ∀ (l : List Head), h ∈ l → spHErr l = 0 → spBad h.2.1 = false := by
        intro l
        induction l with
        | nil => intro hm; cases hm
        | cons x l ih =>
          intro hm he
          unfold spHErr at he
          split at he
          · cases he
          split at he
          · cases he
          rename_i n1 n2
          rcases List.mem_cons.1 hm with rfl | hm
          · simpa using n2
          · exact ih hm he
      rw [this hs0 hh hs] at h'
      cases h'
    · rw [h']; simp
  have H : Has b 0 ([0] ++ (spDig (spZig a0) ++ (spDig (spZig a1) ++ (spBlob B1 ++ (spBlob B2 ++ (spDig (spZig hs0.length) ++ spWHeads hs0)))))) := ⟨by omega, by omega, [], by rw [← eb]; simp⟩
  have H1 := H.right
  have e1 := spLong_at hr.time.1 hr.time.2 H1.left
  have H2 := H1.right
  have e2 := spNum_at hr.off.1 hr.off.2 H2.left
  have H3 := H2.right
  have e3 := spTake_at (l := -1) sb1 hl1 (.inl rfl) H3.left
  have H4 := H3.right
  have e4 := spTake_at (l := -1) sb2 hl2 (.inl rfl) H4.left
  have H5 := H4.right
  have e5 := spNum_at (by omega) (by omega) H5.left
  have H6 := H5.right
  have e6 := spHeadsN_at hs0 [] _ hs hlh H6
  have eh : spHeads b (0 + ((([0] : List Int).length : Nat) : Int) + (spDig (spZig a0)).length + (spDig (spZig a1)).length + (spBlob B1).length + (spBlob B2).length) = (hs0, (b.length : Int), 0) := by
    unfold spHeads
    rw [e5]
    simp only
    rw [if_neg (by simp), if_neg (by omega), if_neg s3, Int.toNat_natCast, e6]
    simp only [List.nil_append, Prod.mk.injEq, and_true, true_and]
    rw [eb]
    simp only [List.length_append, List.length_cons, List.length_nil]
    push_cast
    omega
  have hb0 : b.length ≠ 0 := by rw [eb]; simp
  have hb1 : b.getD 0 0 = 0 := by rw [eb]; rfl
  have e1 : spGet 10 1 b 1 = _ := e1
  unfold spRow
  rw [if_neg hb0, if_neg (notNe hb1), e1]
  simp only
  have e2' : spNum b (0 + ((([0] : List Int).length : Nat) : Int) + (spDig (spZig a0)).length) = _ := e2
  rw [if_neg (by simp), e2']
  simp only
  rw [if_neg (by simp), if_neg s1, e3]
  simp only
  rw [if_neg (by simp), e4]
  simp only
  rw [if_neg (by simp), eh]
  simp only
  rw [if_neg (by simp), if_neg (by omega), zag_zig]

end
end Go.Proofs.Ytnppjkijhcampaa.Sym
