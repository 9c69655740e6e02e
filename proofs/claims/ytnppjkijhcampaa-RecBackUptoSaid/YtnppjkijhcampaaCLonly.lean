/- What rec.Get reads, rec.Put writes: the forms are unique. -/
import Derived.Test.YtnppjkijhcampaaCLgets

namespace Go.Proofs.Ytnppjkijhcampaa.Sym
open Go
set_option linter.unusedSimpArgs false
set_option linter.unusedVariables false
noncomputable section

/-- A number's bytes: each but the last has its high bit, the last isn't 0 behind others. -/
def Can : Bool → List Int → Prop
  | _, [] => False
  | f, [c] => 0 ≤ c ∧ c < 128 ∧ (f = true → c ≠ 0)
  | _, c :: d :: l => 128 ≤ c ∧ c ≤ 255 ∧ Can true (d :: l)
theorem Can.pos : ∀ {l : List Int}, Can true l → 1 ≤ spVal l
  | [], h => h.elim
  | [c], h => by
    obtain ⟨h1, h2, h3⟩ := h
    have := h3 rfl
    simp only [spVal]
    omega
  | c :: d :: l, h => by
    have := Can.pos h.2.2
    rw [spVal]
    omega
theorem Can.dig : ∀ {l : List Int} (n : Nat) (f : Bool), Can f l → l.length ≤ n + 1 → spHi n (spVal l) ++ [spLo n (spVal l)] = l
  | [], n, f, h, hl => h.elim
  | [c], n, f, h, hl => by
    obtain ⟨h1, h2, h3⟩ := h
    have e : spVal [c] = c := by simp only [spVal]; omega
    rw [e]
    cases n with
    | zero => rfl
    | succ n =>
      have : ¬ 127 < c := by omega
      simp [spHi, spLo, this]
  | c :: d :: l, n, f, h, hl => by
    obtain ⟨h1, h2, h3⟩ := h
    have hp := h3.pos
    cases n with
    | zero => simp at hl
    | succ n =>
      have ih := Can.dig n true h3 (by simpa using hl)
      have e : spVal (c :: d :: l) = c % 128 + 128 * spVal (d :: l) := rfl
      have e1 : (c % 128 + 128 * spVal (d :: l)) / 128 = spVal (d :: l) := by omega
      have e2 : (c % 128 + 128 * spVal (d :: l)) % 128 + 128 = c := by omega
      have e3 : 127 < c % 128 + 128 * spVal (d :: l) := by omega
      rw [e, spHi, spLo, if_pos e3, if_pos e3, e1, e2, List.cons_append, ih]
theorem pow128_pos : ∀ j : Nat, (1 : Int) ≤ 128 ^ j
  | 0 => by simp
  | j + 1 => by
    have := pow128_pos j
    rw [Int.pow_succ]
    omega
/-- What is read is such bytes, and their number isn't too large. -/
theorem spRd_can (most : Nat) (top : Int) (h0 : 0 ≤ top) (ht : top < 128) : ∀ (l : List Int) (i : Nat), (∀ c ∈ l, 0 ≤ c ∧ c ≤ 255) → i < most → (spRd most top l i).2 = 0 →
    ∃ m : Nat, (spRd most top l i).1 = i + m ∧ m < l.length ∧ i + m < most ∧ Can (decide (0 < i)) (l.take (m + 1)) ∧ spVal (l.take (m + 1)) < 128 ^ (most - 1 - i) * (top + 1)
  | [], i, hc, hi, h => by simp [spRd] at h
  | c :: l, i, hc, hi, h => by
    have hcc := hc c (by simp)
    simp only [spRd] at h ⊢
    split at h
    · cases h
    rename_i h1
    rw [if_neg h1]
    split at h
    · rename_i h2
      rw [if_pos h2]
      split at h
      · cases h
      rename_i h3
      rw [if_neg h3]
      refine ⟨0, by simp, by simp, by omega, ?_, ?_⟩
      · refine ⟨hcc.1, h2, fun hf hz => h3 ⟨hz, by simpa using hf⟩⟩
      · have e : spVal ((c :: l).take (0 + 1)) = c := by simp only [List.take_succ_cons, List.take_zero, spVal]; omega
        rw [e]
        by_cases hm : i + 1 = most
        · rw [show most - 1 - i = 0 by omega]
          have : ¬ top < c := fun h => h1 ⟨hm, h⟩
          simp; omega
        · obtain ⟨j, hj⟩ : ∃ j, most - 1 - i = j + 1 := ⟨most - 2 - i, by omega⟩
          rw [hj, Int.pow_succ]
          have hp : (1 : Int) ≤ 128 ^ j := pow128_pos j
          have : (1 : Int) * 128 * 1 ≤ 128 ^ j * 128 * (top + 1) := Int.mul_le_mul (Int.mul_le_mul_of_nonneg_right hp (by omega)) (by omega) (by omega) (Int.mul_nonneg (by omega) (by omega))
          omega
    · rename_i h2
      rw [if_neg h2]
      have hne : i + 1 < most := by
        rcases Nat.lt_or_ge (i + 1) most with h | h'
        · exact h
        · exact absurd ⟨by omega, by omega⟩ h1
      obtain ⟨m, g1, g2, g3, g4, g5⟩ := spRd_can most top h0 ht l (i + 1) (fun c hc' => hc c (by simp [hc'])) hne h
      refine ⟨m + 1, by rw [g1]; push_cast; omega, by simp; omega, by omega, ?_, ?_⟩
      · obtain ⟨d, l', rfl⟩ : ∃ d l', l = d :: l' := by
          cases l with
          | nil => simp at g2
          | cons d l' => exact ⟨d, l', rfl⟩
        rw [List.take_succ_cons, List.take_succ_cons] at *
        refine ⟨by omega, hcc.2, ?_⟩
        simpa using g4
      · rw [List.take_succ_cons, spVal]
        obtain ⟨j, hj⟩ : ∃ j, most - 1 - i = j + 1 := ⟨most - 2 - i, by omega⟩
        rw [show most - 1 - (i + 1) = j by omega] at g5
        rw [hj, Int.pow_succ]
        have e : (128 : Int) ^ j * 128 * (top + 1) = 128 * (128 ^ j * (top + 1)) := by
          rw [Int.mul_comm (128 ^ j) 128, Int.mul_assoc]
        rw [e]
        omega

/-- A piece of the bytes. -/
noncomputable def pc (b : List Int) (p q : Int) : List Int := (b.take q.toNat).drop p.toNat
theorem pc_app {b : List Int} {p q r : Int} (h0 : 0 ≤ p) (h1 : p ≤ q) (h2 : q ≤ r) : pc b p q ++ pc b q r = pc b p r := by
  unfold pc
  obtain ⟨P, rfl⟩ := toNat_of h0
  obtain ⟨Q, rfl⟩ := toNat_of (show 0 ≤ q by omega)
  obtain ⟨R, rfl⟩ := toNat_of (show 0 ≤ r by omega)
  simp only [Int.toNat_natCast]
  have e : b.take Q = (b.take R).take Q := by rw [List.take_take, Nat.min_eq_left (by omega)]
  rw [e, List.drop_take]
  have e2 : (b.take R).drop Q = ((b.take R).drop P).drop (Q - P) := by rw [List.drop_drop, show P + (Q - P) = Q by omega]
  rw [e2, List.take_append_drop]
theorem pc_take {b : List Int} {q n : Int} (h0 : 0 ≤ q) (h1 : 0 ≤ n) : (b.drop q.toNat).take n.toNat = pc b q (q + n) := by
  unfold pc
  rw [List.drop_take, show (q + n).toNat - q.toNat = n.toNat by omega]
theorem pc_len {b : List Int} {p q : Int} (h0 : 0 ≤ p) (h1 : p ≤ q) (h2 : q ≤ b.length) : ((pc b p q).length : Int) = q - p := by
  unfold pc
  simp only [List.length_drop, List.length_take]
  omega
def Bytes (b : List Int) : Prop := ∀ c ∈ b, 0 ≤ c ∧ c ≤ 255
theorem spGet_dig {most : Nat} {top : Int} (h0 : 0 ≤ top) (ht : top < 128) (hm : 0 < most) (hm' : most ≤ 10) (hB : 128 ^ (most - 1) * (top + 1) ≤ 18446744073709551616) {b : List Int} (hb : Bytes b) {p : Int} (h : (spGet most top b p).2.2 = 0) :
    spDig (spGet most top b p).1 = pc b p (spGet most top b p).2.1 ∧ 0 ≤ (spGet most top b p).1 ∧ (spGet most top b p).1 < 128 ^ (most - 1) * (top + 1) := by
  obtain ⟨k1, k2, k3⟩ := spGet_ok h
  unfold spGet at h k2 k3 ⊢
  by_cases hp : p < 0 ∨ (b.length : Int) < p
  · rw [if_pos hp] at h; cases h
  rw [if_neg hp] at h k2 k3 ⊢
  by_cases hr : (spRd most top (b.drop p.toNat) 0).2 = 0
  rotate_left
  · rw [if_neg hr] at h; exact absurd h hr
  rw [if_pos hr] at k2 k3 ⊢
  obtain ⟨m, g1, g2, g3, g4, g5⟩ := spRd_can most top h0 ht (b.drop p.toNat) 0 (fun c hc => hb c (List.mem_of_mem_drop hc)) hm hr
  rw [g1] at k2 k3 ⊢
  simp only at k2 k3 ⊢
  have e1 : ((((0 : Nat) : Int) + (m : Int)) + 1).toNat = m + 1 := by omega
  rw [e1]
  have hpos := (spVal_lt ((b.drop p.toNat).take (m + 1))).1
  rw [Nat.sub_zero] at g5
  rw [Int.emod_eq_of_lt hpos (by omega)]
  refine ⟨?_, hpos, g5⟩
  have hd := Can.dig 10 _ g4 (by rw [List.length_take]; omega)
  unfold spDig
  rw [hd]
  unfold pc
  rw [List.drop_take, show (p + (((0 : Nat) : Int) + m) + 1).toNat - p.toNat = m + 1 by omega]
theorem inR_i32 {n : Int} : inR .i32 n ↔ -2147483648 ≤ n ∧ n ≤ 2147483647 := by simp [inR, IntKind.min, IntKind.max, IntKind.signed, IntKind.bits]
theorem zig_zag {u : Int} (h : 0 ≤ u) : spZig (spZag u) = u := by
  unfold spZig spZag
  split <;> split <;> omega
theorem spNum_dig {b : List Int} (hb : Bytes b) {p : Int} (h : (spNum b p).2.2 = 0) : spDig (spZig (spNum b p).1) = pc b p (spNum b p).2.1 := by
  obtain ⟨h1, h2, h3⟩ := spGet_dig (most := 5) (top := 15) (by decide) (by decide) (by decide) (by decide) (by decide) hb (show (spGet 5 15 b p).2.2 = 0 from h)
  have h3 : (spGet 5 15 b p).1 < 4294967296 := h3
  have e : (spNum b p).1 = spZag (spGet 5 15 b p).1 := by
    show IntKind.wrap .i32 (spZag (spGet 5 15 b p).1) = _
    refine wrap_id (k := .i32) (inR_i32.2 ?_)
    unfold spZag
    split <;> omega
  rw [e, zig_zag h2]
  exact h1
theorem spLong_dig {b : List Int} (hb : Bytes b) {p : Int} (h : (spGet 10 1 b p).2.2 = 0) : spDig (spZig (spZag (spGet 10 1 b p).1)) = pc b p (spGet 10 1 b p).2.1 := by
  obtain ⟨h1, h2, h3⟩ := spGet_dig (most := 10) (top := 1) (by decide) (by decide) (by decide) (by decide) (by decide) hb h
  rw [zig_zag h2]
  exact h1

/-- What spTake comes to, if there is no error. -/
theorem spTake_ok {b : List Int} {p l : Int} (hl : -1 ≤ l) (h : (spTake b p l).2.2 = 0) : (spNum b p).2.2 = 0 ∧
    ((l < 0 ∧ (spNum b p).1 = -1 ∧ spTake b p l = ((true, [], ()), (spNum b p).2.1, 0)) ∨
     (0 ≤ (spNum b p).1 ∧ (spNum b p).2.1 + (spNum b p).1 ≤ b.length ∧ spTake b p l = ((false, pc b (spNum b p).2.1 ((spNum b p).2.1 + (spNum b p).1), ()), (spNum b p).2.1 + (spNum b p).1, 0))) := by
  unfold spTake at h ⊢
  by_cases h0 : (spNum b p).2.2 = 0
  rotate_left
  · rw [if_pos h0] at h; exact absurd h h0
  have hk := spNum_ok h0
  rw [if_neg (notNe h0)] at h ⊢
  by_cases h1 : (spNum b p).1 < l
  · rw [if_pos h1] at h; cases h
  rw [if_neg h1] at h ⊢
  by_cases h2 : (spNum b p).1 < 0
  · rw [if_pos h2]
    exact ⟨h0, .inl ⟨by omega, by omega, rfl⟩⟩
  rw [if_neg h2] at h ⊢
  by_cases h3 : (b.length : Int) - (spNum b p).2.1 < (spNum b p).1
  · rw [if_pos h3] at h; cases h
  rw [if_neg h3, pc_take (by omega) (by omega)]
  exact ⟨h0, .inr ⟨by omega, by omega, rfl⟩⟩
theorem spTake_only {b : List Int} (hb : Bytes b) {p l : Int} (hl : -1 ≤ l) (h : (spTake b p l).2.2 = 0) :
    spBlob (spTake b p l).1 = pc b p (spTake b p l).2.1 ∧ spBad (spTake b p l).1 = false ∧ 0 ≤ p ∧ p < (spTake b p l).2.1 ∧ (spTake b p l).2.1 ≤ b.length ∧ (0 ≤ l → (spTake b p l).1.1 = false) := by
  obtain ⟨h0, h1 | h1⟩ := spTake_ok hl h
  · obtain ⟨h1, h2, e⟩ := h1
    have hk := spNum_ok h0
    have hd := spNum_dig hb h0
    rw [e]
    refine ⟨?_, by simp [spBad], hk.1, hk.2.1, hk.2.2, fun h => by omega⟩
    rw [h2] at hd
    exact hd
  · obtain ⟨h1, h2, e⟩ := h1
    have hk := spNum_ok h0
    have hd := spNum_dig hb h0
    rw [e]
    refine ⟨?_, by simp [spBad], hk.1, by simp only; omega, by simpa using h2, fun _ => rfl⟩
    show spDig (spZig ((pc b (spNum b p).2.1 ((spNum b p).2.1 + (spNum b p).1)).length : Int)) ++ pc b (spNum b p).2.1 ((spNum b p).2.1 + (spNum b p).1) = _
    rw [pc_len (by omega) (by omega) h2, show (spNum b p).2.1 + (spNum b p).1 - (spNum b p).2.1 = (spNum b p).1 by omega, hd, pc_app hk.1 (by omega) (by omega)]

theorem spHeadsN_only {b : List Int} (hb : Bytes b) : ∀ (n : Nat) (o : List Head) (p : Int), 0 ≤ p → p ≤ b.length → (spHeadsN b n o p).2.2 = 0 →
    ∃ hs : List Head, (spHeadsN b n o p).1 = o ++ hs ∧ hs.length = n ∧ spWHeads hs = pc b p (spHeadsN b n o p).2.1 ∧ spHErr hs = 0 ∧ p ≤ (spHeadsN b n o p).2.1 ∧ (spHeadsN b n o p).2.1 ≤ b.length
  | 0, o, p, h0, h1, h => by
    refine ⟨[], by simp [spHeadsN], rfl, ?_, rfl, Int.le_refl _, h1⟩
    show [] = pc b p p
    unfold pc
    rw [List.drop_of_length_le (by simp; omega)]
  | n + 1, o, p, h0, h1, h => by
    rw [spHeadsN_succ] at h ⊢
    by_cases hH : (spHead b p).2.2 = 0
    rotate_left
    · rw [if_pos hH] at h; exact absurd h hH
    rw [if_neg (notNe hH)] at h ⊢
    -- the header
    unfold spHead at hH
    by_cases a1 : (spTake b p 0).2.2 = 0
    rotate_left
    · rw [if_pos a1] at hH; exact absurd hH a1
    rw [if_neg (notNe a1)] at hH
    by_cases a2 : (spUtf (spTake b p 0).1.2.1).2 = false
    · rw [if_pos a2] at hH; cases hH
    rw [if_neg a2] at hH
    have hH : (spTake b (spTake b p 0).2.1 (-1)).2.2 = 0 := hH
    have eH : spHead b p = (((spTake b p 0).1.2.1, (spTake b (spTake b p 0).2.1 (-1)).1, ()), (spTake b (spTake b p 0).2.1 (-1)).2.1, (spTake b (spTake b p 0).2.1 (-1)).2.2) := by
      unfold spHead; rw [if_neg (notNe a1), if_neg a2]
    rw [eH] at h ⊢
    simp only at h ⊢
    obtain ⟨k1, k2, k3, k4, k5, k6⟩ := spTake_only hb (by decide) a1
    obtain ⟨q1, q2, q3, q4, q5, q6⟩ := spTake_only hb (by decide) hH
    have k6 := k6 (Int.le_refl 0)
    obtain ⟨hs, g1, g2, g3, g4, g5, g6⟩ := spHeadsN_only hb n _ _ (show 0 ≤ (spTake b (spTake b p 0).2.1 (-1)).2.1 by omega) q5 h
    refine ⟨((spTake b p 0).1.2.1, (spTake b (spTake b p 0).2.1 (-1)).1, ()) :: hs, by rw [g1]; simp, by simp [g2], ?_, ?_, by omega, g6⟩
    · have e1 : spWHeads (((spTake b p 0).1.2.1, (spTake b (spTake b p 0).2.1 (-1)).1, ()) :: hs) = (spDig (spZig (spTake b p 0).1.2.1.length) ++ (spTake b p 0).1.2.1) ++ spBlob (spTake b (spTake b p 0).2.1 (-1)).1 ++ spWHeads hs := by
        simp [spWHeads, spWHead]
      have e2 : spDig (spZig (spTake b p 0).1.2.1.length) ++ (spTake b p 0).1.2.1 = pc b p (spTake b p 0).2.1 := by
        rw [← k1]
        unfold spBlob
        rw [if_neg (by rw [k6]; decide)]
      rw [e1, e2, q1, g3, pc_app k3 (by omega) (by omega), pc_app k3 (by omega) (by omega)]
    · unfold spHErr
      rw [if_neg a2, if_neg (by rw [q2]; decide)]
      exact g4
theorem spHeads_only {b : List Int} (hb : Bytes b) {p : Int} (h : (spHeads b p).2.2 = 0) :
    spDig (spZig (spHeads b p).1.length) ++ spWHeads (spHeads b p).1 = pc b p (spHeads b p).2.1 ∧ spHErr (spHeads b p).1 = 0 ∧ ((spHeads b p).1.length : Int) ≤ 16 ∧ 0 ≤ p ∧ p < (spHeads b p).2.1 ∧ (spHeads b p).2.1 ≤ b.length := by
  unfold spHeads at h ⊢
  by_cases c5 : (spNum b p).2.2 = 0
  rotate_left
  · rw [if_pos c5] at h; exact absurd h c5
  rw [if_neg (notNe c5)] at h ⊢
  by_cases c6 : (spNum b p).1 < 0
  · rw [if_pos c6] at h; cases h
  rw [if_neg c6] at h ⊢
  by_cases c7 : 16 < (spNum b p).1
  · rw [if_pos c7] at h; cases h
  rw [if_neg c7] at h ⊢
  have hk := spNum_ok c5
  obtain ⟨hs, g1, g2, g3, g4, g5, g6⟩ := spHeadsN_only hb (spNum b p).1.toNat [] (spNum b p).2.1 (by omega) hk.2.2 h
  rw [List.nil_append] at g1
  have hl : (hs.length : Int) = (spNum b p).1 := by omega
  rw [g1, hl, spNum_dig hb c5, g3, pc_app hk.1 (by omega) g5]
  exact ⟨rfl, g4, by omega, hk.1, by omega, g6⟩
/-- A row that is read is well-formed, and its bytes are the only ones. -/
theorem spRow_only {b : List Int} (hb : Bytes b) (h : (spRow b).2 = 0) : spBody (spRow b).1 = b ∧ spShape (spRow b).1 = 0 := by
  unfold spRow at h ⊢
  by_cases h0 : b.length = 0
  · rw [if_pos h0] at h; cases h
  rw [if_neg h0] at h ⊢
  by_cases h1 : b.getD 0 0 = 0
  rotate_left
  · rw [if_pos h1] at h; cases h
  rw [if_neg (notNe h1)] at h ⊢
  by_cases h2 : (spGet 10 1 b 1).2.2 = 0
  rotate_left
  · rw [if_pos h2] at h; exact absurd h h2
  rw [if_neg (notNe h2)] at h ⊢
  have d1 := spLong_dig hb h2
  have k1 := spGet_ok h2
  generalize spZag (spGet 10 1 b 1).1 = v1 at *
  generalize (spGet 10 1 b 1).2.1 = q1 at *
  by_cases c1 : (spNum b q1).2.2 = 0
  rotate_left
  · rw [if_pos c1] at h; exact absurd h c1
  rw [if_neg (notNe c1)] at h ⊢
  by_cases c2 : (spNum b q1).1 < 0
  · rw [if_pos c2] at h; cases h
  rw [if_neg c2] at h ⊢
  have d2 := spNum_dig hb c1
  have k2 := spNum_ok c1
  generalize (spNum b q1).1 = v2 at *
  generalize (spNum b q1).2.1 = q2 at *
  by_cases c3 : (spTake b q2 (-1)).2.2 = 0
  rotate_left
  · rw [if_pos c3] at h; exact absurd h c3
  rw [if_neg (notNe c3)] at h ⊢
  obtain ⟨d3, b3, k3⟩ := spTake_only hb (by decide) c3
  generalize (spTake b q2 (-1)).1 = B1 at *
  generalize (spTake b q2 (-1)).2.1 = q3 at *
  by_cases c4 : (spTake b q3 (-1)).2.2 = 0
  rotate_left
  · rw [if_pos c4] at h; exact absurd h c4
  rw [if_neg (notNe c4)] at h ⊢
  obtain ⟨d4, b4, k4⟩ := spTake_only hb (by decide) c4
  generalize (spTake b q3 (-1)).1 = B2 at *
  generalize (spTake b q3 (-1)).2.1 = q4 at *
  by_cases c5 : (spHeads b q4).2.2 = 0
  rotate_left
  · rw [if_pos c5] at h; exact absurd h c5
  rw [if_neg (notNe c5)] at h ⊢
  obtain ⟨d5, e5, n5, k5⟩ := spHeads_only hb c5
  generalize (spHeads b q4).1 = hs at *
  generalize (spHeads b q4).2.1 = q5 at *
  by_cases c6 : q5 < (b.length : Int)
  · rw [if_pos c6] at h; cases h
  rw [if_neg c6]
  refine ⟨?_, ?_⟩
  · show 0 :: (spDig (spZig v1) ++ (spDig (spZig v2) ++ (spBlob B1 ++ (spBlob B2 ++ (spDig (spZig hs.length) ++ spWHeads hs))))) = b
    rw [d1, d2, d3, d4, d5, pc_app (by omega) (by omega) (by omega), pc_app (by omega) (by omega) (by omega), pc_app (by omega) (by omega) (by omega), pc_app (by omega) (by omega) (by omega), show q5 = b.length by omega]
    unfold pc
    rw [Int.toNat_natCast, List.take_length]
    obtain ⟨c, l, rfl⟩ : ∃ c l, b = c :: l := by
      cases b with
      | nil => exact absurd rfl h0
      | cons c l => exact ⟨c, l, rfl⟩
    have h1 : c = 0 := h1
    rw [h1]
    rfl
  · show (if v2 < 0 then 72 else if spBad B1 = true ∨ spBad B2 = true then 70 else if 16 < (hs.length : Int) then 9 else spHErr hs) = 0
    rw [if_neg c2, if_neg (by rw [b3, b4]; simp), if_neg (by omega), e5]
theorem spRec_only {b : List Int} (hb : Bytes b) {p : Int} (h : (spRec b p).2.2 = 0) :
    0 ≤ p ∧ p < (spRec b p).2.1 ∧ (spRec b p).2.1 ≤ b.length ∧ spCheck (spRec b p).1 = 0 ∧ spPutR (spRec b p).1 = (pc b p (spRec b p).2.1, 0) ∧ spRoom (spRec b p).1 = true := by
  unfold spRec at h ⊢
  by_cases c1 : (spNum b p).2.2 = 0
  rotate_left
  · rw [if_pos c1] at h; exact absurd h c1
  rw [if_neg (notNe c1)] at h ⊢
  by_cases c2 : (spNum b p).1 < 0
  · rw [if_pos c2] at h; cases h
  rw [if_neg c2] at h ⊢
  by_cases c3 : 16384 < (spNum b p).1
  · rw [if_pos c3] at h; cases h
  rw [if_neg c3] at h ⊢
  by_cases c4 : (b.length : Int) - (spNum b p).2.1 < (spNum b p).1
  · rw [if_pos c4] at h; cases h
  rw [if_neg c4] at h ⊢
  have d1 := spNum_dig hb c1
  have k1 := spNum_ok c1
  generalize (spNum b p).1 = n at *
  generalize (spNum b p).2.1 = q at *
  rw [pc_take (by omega) (by omega)] at h ⊢
  by_cases c5 : (spRow (pc b q (q + n))).2 = 0
  rotate_left
  · rw [if_pos c5] at h; exact absurd h c5
  rw [if_neg (notNe c5)] at h ⊢
  have hb2 : Bytes (pc b q (q + n)) := fun c hc => hb c (List.mem_of_mem_take (List.mem_of_mem_drop hc))
  obtain ⟨e1, e2⟩ := spRow_only hb2 c5
  have hl := pc_len (b := b) (p := q) (q := q + n) (by omega) (by omega) (by omega)
  generalize (spRow (pc b q (q + n))).1 = r at *
  have hbl : ((spBody r).length : Int) = n := by rw [e1]; omega
  have hc : spCheck r = 0 := by
    unfold spCheck
    rw [if_neg (notNe e2), if_neg (by omega)]
  refine ⟨k1.1, by simp only; omega, by simp only; omega, hc, ?_, ?_⟩
  · unfold spPutR
    rw [if_pos hc, hbl, d1, e1, pc_app k1.1 (by omega) (by omega)]
  · unfold spRoom
    rw [decide_eq_true_eq]
    omega

/-! ### leat/leatlaw07.RecOnly -/
noncomputable abbrev iolOnly : Io := ⟨[dL, dI], [], [], [dB], none⟩
noncomputable def FlOnly (d : iolOnly.In) : Tr iolOnly.Res := .ite (decide (d.1.1.length ≤ 4294967000)) (.ret (.ret ((true, ()), ()))) .no
noncomputable abbrev cslOnly : List (Nat × Hc) := [(9, ioHd iolalive Flalive), (23, ioHd ioCopy FCopy), (11, ioHd iokGet FkGet), (13, ioHd iorAlike FrAlike), (15, ioHd iokPut FkPut), (24, ioHd iokCheck FkCheck), (25, ioHd ioSame FSame), (19, ioHd ioPiece FPiece)]
noncomputable def hdlOnly : Hd := hdT cslOnly
noncomputable def lplOnly : Lp := lpT []

noncomputable def bodylOnly (a0 : List Int) (a1 : Int) : Option iolOnly.Res := bif decide (a0.length ≤ 4294967296) then bif (spRec a0 a1).snd.snd != 0 then bif (spRec a0 a1).snd.fst == 0 then some (Out.ret ((spEqR ((spRec a0 a1).fst.fst, (spRec a0 a1).fst.snd.fst, ((spRec a0 a1).fst.snd.snd.fst.fst, (spRec a0 a1).fst.snd.snd.fst.snd.fst, ()), ((spRec a0 a1).fst.snd.snd.snd.fst.fst, (spRec a0 a1).fst.snd.snd.snd.fst.snd.fst, ()), (spRec a0 a1).fst.snd.snd.snd.snd.fst, ()) (0, 0, (false, [], ()), (false, [], ()), [], ()), ()), ())) else some (Out.ret ((false, ()), ())) else bif spRoom ((spRec a0 a1).fst.fst, (spRec a0 a1).fst.snd.fst, ((spRec a0 a1).fst.snd.snd.fst.fst, (spRec a0 a1).fst.snd.snd.fst.snd.fst, ()), ((spRec a0 a1).fst.snd.snd.snd.fst.fst, (spRec a0 a1).fst.snd.snd.snd.fst.snd.fst, ()), (spRec a0 a1).fst.snd.snd.snd.snd.fst, ()) then bif decide (a1 < 0) then some (Out.ret ((false, ()), ())) else bif decide ((spRec a0 a1).snd.fst ≤ a1) then some (Out.ret ((false, ()), ())) else bif decide ((↑a0.length : Int) < (spRec a0 a1).snd.fst) then some (Out.ret ((false, ()), ())) else bif spRoom ((spRec a0 a1).fst.fst, (spRec a0 a1).fst.snd.fst, ((spRec a0 a1).fst.snd.snd.fst.fst, (spRec a0 a1).fst.snd.snd.fst.snd.fst, ()), ((spRec a0 a1).fst.snd.snd.snd.fst.fst, (spRec a0 a1).fst.snd.snd.snd.fst.snd.fst, ()), (spRec a0 a1).fst.snd.snd.snd.snd.fst, ()) then bif spCheck ((spRec a0 a1).fst.fst, (spRec a0 a1).fst.snd.fst, ((spRec a0 a1).fst.snd.snd.fst.fst, (spRec a0 a1).fst.snd.snd.fst.snd.fst, ()), ((spRec a0 a1).fst.snd.snd.snd.fst.fst, (spRec a0 a1).fst.snd.snd.snd.fst.snd.fst, ()), (spRec a0 a1).fst.snd.snd.snd.snd.fst, ()) == 0 then bif (spPutR ((spRec a0 a1).fst.fst, (spRec a0 a1).fst.snd.fst, ((spRec a0 a1).fst.snd.snd.fst.fst, (spRec a0 a1).fst.snd.snd.fst.snd.fst, ()), ((spRec a0 a1).fst.snd.snd.snd.fst.fst, (spRec a0 a1).fst.snd.snd.snd.fst.snd.fst, ()), (spRec a0 a1).fst.snd.snd.snd.snd.fst, ())).snd == 0 then bif decide (a0.length ≤ 4294967296) then some (Out.ret ((decide ((spPutR ((spRec a0 a1).fst.fst, (spRec a0 a1).fst.snd.fst, ((spRec a0 a1).fst.snd.snd.fst.fst, (spRec a0 a1).fst.snd.snd.fst.snd.fst, ()), ((spRec a0 a1).fst.snd.snd.snd.fst.fst, (spRec a0 a1).fst.snd.snd.snd.fst.snd.fst, ()), (spRec a0 a1).fst.snd.snd.snd.snd.fst, ())).fst = List.drop a1.toNat (List.take (spRec a0 a1).snd.fst.toNat a0)), ()), ())) else none else some (Out.ret ((false, ()), ())) else some (Out.ret ((false, ()), ())) else none else none else none
theorem runlOnly (a0 : List Int) (a1 : Int) : Io.run tt hdlOnly dr lplOnly iolOnly Go.Proofs.Try.f6 ((a0, a1, ()), ()) = bodylOnly a0 a1 := by kernel_rfl
theorem spRec_err {b : List Int} {p : Int} (h : (spRec b p).2.2 ≠ 0) : (spRec b p).1 = spNone ∧ (spRec b p).2.1 = 0 := by
  unfold spRec at h ⊢
  split
  · exact ⟨rfl, rfl⟩
  split
  · exact ⟨rfl, rfl⟩
  split
  · exact ⟨rfl, rfl⟩
  split
  · exact ⟨rfl, rfl⟩
  split
  · exact ⟨rfl, rfl⟩
  rename_i h1 h2 h3 h4 h5
  rw [if_neg h1, if_neg h2, if_neg h3, if_neg h4, if_neg h5] at h
  exact absurd rfl h
theorem bytesOf {b : List Int} (h : Ty.wf bs b) : Bytes b := fun c hc => by
  have := h.2 c hc
  exact inR_u8.1 this
theorem oklOnly : HcOk prog 6 (ioHd iolOnly FlOnly) := by
  refine fn_sound (n := 400) hm (cs := cslOnly) (.cons oklalive (.cons okCopy (.cons okkGet (.cons okrAlike (.cons okkPut (.cons okkCheck (.cons okSame (.cons okPiece .nil)))))))) (lp := lplOnly) (fn := Go.Proofs.Try.f6) (by kernel_rfl) (by kernel_rfl) (by kernel_rfl) iolOnly (.done (by kernel_rfl)) FlOnly ?_
  rintro ⟨⟨(b : List Int), (p : Int), ⟨⟩⟩, ⟨⟩⟩ out hw ho
  obtain ⟨hg, ho⟩ := Tr.guard ho
  have hg : b.length ≤ 4294967000 := of_decide_eq_true hg
  cases ho
  refine (runlOnly b p).trans ?_
  have hb : Bytes b := bytesOf hw.1.1
  change (bif decide (b.length ≤ 4294967296) then bif (spRec b p).2.2 != 0 then bif (spRec b p).2.1 == 0 then some (Out.ret ((spEqR (spRec b p).1 spNone, ()), ())) else some (Out.ret ((false, ()), ())) else
    bif spRoom (spRec b p).1 then bif decide (p < 0) then some (Out.ret ((false, ()), ())) else bif decide ((spRec b p).2.1 ≤ p) then some (Out.ret ((false, ()), ())) else bif decide ((b.length : Int) < (spRec b p).2.1) then some (Out.ret ((false, ()), ())) else
      bif spRoom (spRec b p).1 then bif spCheck (spRec b p).1 == 0 then bif (spPutR (spRec b p).1).2 == 0 then bif decide (b.length ≤ 4294967296) then some (Out.ret ((decide ((spPutR (spRec b p).1).1 = pc b p (spRec b p).2.1), ()), ())) else none else some (Out.ret ((false, ()), ())) else some (Out.ret ((false, ()), ())) else none else none else none) = _
  rw [bif_true (by simp; omega)]
  by_cases h : (spRec b p).2.2 = 0
  · obtain ⟨h1, h2, h3, h4, h5, h6⟩ := spRec_only hb h
    rw [bif_false (by simpa using h), h6, bif_true rfl, bif_false (by simp; omega), bif_false (by simp; omega), bif_false (by simp; omega), bif_true rfl, h4, h5]
    have hd : b.length ≤ 4294967296 := by omega
    simp [hd]
  · obtain ⟨h1, h2⟩ := spRec_err h
    have h3 : spEqR spNone spNone = true := spEqR_iff.2 rfl
    rw [bif_true (by simpa using h), h1, h2, h3]
    rfl

end
end Go.Proofs.Ytnppjkijhcampaa.Sym
