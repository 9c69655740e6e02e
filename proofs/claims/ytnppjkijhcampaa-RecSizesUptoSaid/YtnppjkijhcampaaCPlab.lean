/- strings.HasPrefix, label.Utf. -/
import Derived.Test.YtnppjkijhcampaaCRget

namespace Go.Proofs.Ytnppjkijhcampaa.Sym
open Go
set_option linter.unusedSimpArgs false
set_option linter.unusedVariables false
noncomputable section

noncomputable abbrev dS : Sh := .dat .str false false
noncomputable def spPre (s p : List Int) : Bool := decide (s.take p.length = p)
theorem mkStr_get {s : List Int} (hs : byteR s) (k : Nat) : ((mkStr s).get! k).toNat = (s.getD k 0).toNat := by
  by_cases h : k < s.length
  · have h1 : (mkStr s).get! k = UInt8.ofNat (s[k]).toNat := by
      have : k < (mkStr s).data.size := by simp [mkStr, h]
      have e : (mkStr s).get! k = (mkStr s).data[k] := getElem!_pos (mkStr s).data k this
      rw [e]
      simp [mkStr]
    rw [h1, getD_lt h]
    have := hs s[k] (List.getElem_mem h)
    rw [UInt8.toNat_ofNat', Nat.mod_eq_of_lt (by omega)]
  · have h1 : (mkStr s).get! k = 0 := by
      have : ¬ k < (mkStr s).data.size := by simp [mkStr]; omega
      have e : (mkStr s).get! k = default := getElem!_neg (mkStr s).data k this
      rw [e]
      rfl
    rw [h1, List.getD_eq_getElem?_getD, List.getElem?_eq_none (by omega)]
    rfl
/-- A character by its bytes. -/
def chN (r1 r2 r3 : Prop) [Decidable r1] [Decidable r2] [Decidable r3] (x0 x1 x2 x3 : Nat) : Nat :=
  if x0 < 128 then 1
  else if x0 < 194 ∨ 244 < x0 ∨ ¬ (r1 ∧ (if x0 = 240 then 144 else if x0 = 224 then 160 else 128) ≤ x1 ∧ x1 ≤ (if x0 = 244 then 143 else if x0 = 237 then 159 else 191)) then 0
  else if x0 < 224 then 2
  else if ¬ (r2 ∧ 128 ≤ x2 ∧ x2 ≤ 191) then 0
  else if x0 < 240 then 3
  else if ¬ (r3 ∧ 128 ≤ x3 ∧ x3 ≤ 191) then 0 else 4
theorem spChar_N {b : List Int} (hs : byteR b) {n : Nat} (h : n < b.length) : spChar b n = (chN (n + 1 < b.length) (n + 2 < b.length) (n + 3 < b.length) (b.getD n 0).toNat (b.getD (n + 1) 0).toNat (b.getD (n + 2) 0).toNat (b.getD (n + 3) 0).toNat : Int) := by
  have hr : ∀ k, 0 ≤ b.getD k 0 ∧ b.getD k 0 < 256 := fun k => by
    by_cases hk : k < b.length
    · rw [getD_lt hk]; exact hs _ (List.getElem_mem hk)
    · rw [List.getD_eq_getElem?_getD, List.getElem?_eq_none (by omega)]; simp
  unfold spChar chN spIn spLoOf spHiOf
  have e1 : ((n : Int) + 1).toNat = n + 1 := by omega
  have e2 : ((n : Int) + 2).toNat = n + 2 := by omega
  have e3 : ((n : Int) + 3).toNat = n + 3 := by omega
  rw [e1, e2, e3, Int.toNat_natCast]
  have h0 := hr n
  have h1 := hr (n + 1)
  have h2 := hr (n + 2)
  have h3 := hr (n + 3)
  generalize b.getD n 0 = y0 at *
  generalize b.getD (n + 1) 0 = y1 at *
  generalize b.getD (n + 2) 0 = y2 at *
  generalize b.getD (n + 3) 0 = y3 at *
  obtain ⟨x0, rfl⟩ := toNat_of h0.1
  obtain ⟨x1, rfl⟩ := toNat_of h1.1
  obtain ⟨x2, rfl⟩ := toNat_of h2.1
  obtain ⟨x3, rfl⟩ := toNat_of h3.1
  generalize b.length = L at *
  rw [if_neg (by omega)]
  simp only [Bool.and_eq_false_iff, decide_eq_false_iff_not, Int.toNat_natCast]
  by_cases a0 : x0 < 128
  · rw [if_pos (by omega), if_pos a0]; rfl
  rw [if_neg (by omega), if_neg a0]
  have hi : (if (x0 : Int) = 240 then (144 : Int) else if (x0 : Int) = 224 then 160 else 128) = ((if x0 = 240 then 144 else if x0 = 224 then 160 else 128 : Nat) : Int) := by
    repeat' split
    all_goals omega
  have hj : (if (x0 : Int) = 244 then (143 : Int) else if (x0 : Int) = 237 then 159 else 191) = ((if x0 = 244 then 143 else if x0 = 237 then 159 else 191 : Nat) : Int) := by
    repeat' split
    all_goals omega
  rw [hi, hj]
  generalize (if x0 = 240 then 144 else if x0 = 224 then 160 else 128 : Nat) = lo
  generalize (if x0 = 244 then 143 else if x0 = 237 then 159 else 191 : Nat) = hi
  by_cases a1 : x0 < 194 ∨ 244 < x0 ∨ ¬ (n + 1 < L ∧ lo ≤ x1 ∧ x1 ≤ hi)
  · rw [if_pos a1, if_pos (by omega)]; rfl
  rw [if_neg a1, if_neg (by omega)]
  by_cases a2 : x0 < 224
  · rw [if_pos a2, if_pos (by omega)]; rfl
  rw [if_neg a2, if_neg (by omega)]
  by_cases a3 : ¬ (n + 2 < L ∧ 128 ≤ x2 ∧ x2 ≤ 191)
  · rw [if_pos a3, if_pos (by omega)]; rfl
  rw [if_neg a3, if_neg (by omega)]
  by_cases a4 : x0 < 240
  · rw [if_pos a4, if_pos (by omega)]; rfl
  rw [if_neg a4, if_neg (by omega)]
  by_cases a5 : ¬ (n + 3 < L ∧ 128 ≤ x3 ∧ x3 ≤ 191)
  · rw [if_pos a5, if_pos (by omega)]; rfl
  rw [if_neg a5, if_neg (by omega)]; rfl
/-- A rune by its bytes. -/
def ruN (r1 r2 r3 : Prop) [Decidable r1] [Decidable r2] [Decidable r3] (x0 x1 x2 x3 : Nat) : Nat × Nat :=
  if x0 < 128 then (x0, 1)
  else if x0 / 32 = 6 ∧ (r1 ∧ x1 / 64 = 2) then (if 128 ≤ (x0 % 32) * 64 + x1 % 64 then ((x0 % 32) * 64 + x1 % 64, 2) else (65533, 1))
  else if (x0 / 16 = 14 ∧ (r1 ∧ x1 / 64 = 2)) ∧ (r2 ∧ x2 / 64 = 2) then
    (if 2048 ≤ (x0 % 16) * 4096 + (x1 % 64) * 64 + x2 % 64 ∧ ((x0 % 16) * 4096 + (x1 % 64) * 64 + x2 % 64 < 55296 ∨ 57344 ≤ (x0 % 16) * 4096 + (x1 % 64) * 64 + x2 % 64) then ((x0 % 16) * 4096 + (x1 % 64) * 64 + x2 % 64, 3) else (65533, 1))
  else if ((x0 / 8 = 30 ∧ (r1 ∧ x1 / 64 = 2)) ∧ (r2 ∧ x2 / 64 = 2)) ∧ (r3 ∧ x3 / 64 = 2) then
    (if 65536 ≤ (x0 % 8) * 262144 + (x1 % 64) * 4096 + (x2 % 64) * 64 + x3 % 64 ∧ (x0 % 8) * 262144 + (x1 % 64) * 4096 + (x2 % 64) * 64 + x3 % 64 ≤ 1114111 then ((x0 % 8) * 262144 + (x1 % 64) * 4096 + (x2 % 64) * 64 + x3 % 64, 4) else (65533, 1))
  else (65533, 1)
theorem valid3 {c : Nat} (h : c < 65536) : Utf8.valid (c : Int) = true ↔ (c < 55296 ∨ 57344 ≤ c) := by
  simp only [Utf8.valid, Bool.or_eq_true, Bool.and_eq_true, decide_eq_true_eq]; omega
theorem valid4 {c : Nat} (h : 65536 ≤ c) : Utf8.valid (c : Int) = true ↔ c ≤ 1114111 := by
  simp only [Utf8.valid, Bool.or_eq_true, Bool.and_eq_true, decide_eq_true_eq]; omega
theorem decode_N {b : List Int} (hs : byteR b) (n : Nat) : Utf8.decode (mkStr b) n = ruN (n + 1 < b.length) (n + 2 < b.length) (n + 3 < b.length) (b.getD n 0).toNat (b.getD (n + 1) 0).toNat (b.getD (n + 2) 0).toNat (b.getD (n + 3) 0).toNat := by
  unfold Utf8.decode ruN Utf8.runeError
  simp only [mkStr_get hs, mkStr_size, Nat.add_zero]
  generalize (b.getD n 0).toNat = x0
  generalize (b.getD (n + 1) 0).toNat = x1
  generalize (b.getD (n + 2) 0).toNat = x2
  generalize (b.getD (n + 3) 0).toNat = x3
  simp only [Bool.and_eq_true, decide_eq_true_eq, beq_iff_eq, ge_iff_le]
  congr 1
  congr 1
  congr 1
  · congr 1
    apply propext
    constructor
    · rintro ⟨h1, h2⟩; exact ⟨h1, (valid3 (by omega)).1 h2⟩
    · rintro ⟨h1, h2⟩; exact ⟨h1, (valid3 (by omega)).2 h2⟩
  · congr 1
    congr 1
    apply propext
    constructor
    · rintro ⟨h1, h2⟩; exact ⟨h1, (valid4 h1).1 h2⟩
    · rintro ⟨h1, h2⟩; exact ⟨h1, (valid4 h1).2 h2⟩
theorem ru2 {x0 x1 : Nat} (h0 : x0 < 256) (h1 : x1 < 256) : (x0 / 32 = 6 ∧ x1 / 64 = 2) ∧ 128 ≤ (x0 % 32) * 64 + x1 % 64 ↔ 194 ≤ x0 ∧ x0 < 224 ∧ 128 ≤ x1 ∧ x1 ≤ 191 := by omega
theorem ru3 {x0 x1 x2 : Nat} (h0 : x0 < 256) (h1 : x1 < 256) (h2 : x2 < 256) : ((x0 / 16 = 14 ∧ x1 / 64 = 2) ∧ x2 / 64 = 2) ∧ (2048 ≤ (x0 % 16) * 4096 + (x1 % 64) * 64 + x2 % 64 ∧ ((x0 % 16) * 4096 + (x1 % 64) * 64 + x2 % 64 < 55296 ∨ 57344 ≤ (x0 % 16) * 4096 + (x1 % 64) * 64 + x2 % 64)) ↔
    224 ≤ x0 ∧ x0 < 240 ∧ ((if x0 = 224 then 160 else 128) ≤ x1 ∧ x1 ≤ (if x0 = 237 then 159 else 191)) ∧ 128 ≤ x2 ∧ x2 ≤ 191 := by
  constructor
  · rintro ⟨⟨⟨h3, h4⟩, h5⟩, h6⟩
    refine ⟨by omega, by omega, ⟨?_, ?_⟩, by omega, by omega⟩
    · split <;> omega
    · split <;> omega
  · rintro ⟨h3, h4, ⟨h5, h6⟩, h7, h8⟩
    split at h5 <;> split at h6 <;> omega
theorem ru4 {x0 x1 x2 x3 : Nat} (h0 : x0 < 256) (h1 : x1 < 256) (h2 : x2 < 256) (h3 : x3 < 256) : (((x0 / 8 = 30 ∧ x1 / 64 = 2) ∧ x2 / 64 = 2) ∧ x3 / 64 = 2) ∧ (65536 ≤ (x0 % 8) * 262144 + (x1 % 64) * 4096 + (x2 % 64) * 64 + x3 % 64 ∧ (x0 % 8) * 262144 + (x1 % 64) * 4096 + (x2 % 64) * 64 + x3 % 64 ≤ 1114111) ↔
    240 ≤ x0 ∧ x0 ≤ 244 ∧ ((if x0 = 240 then 144 else 128) ≤ x1 ∧ x1 ≤ (if x0 = 244 then 143 else 191)) ∧ (128 ≤ x2 ∧ x2 ≤ 191) ∧ (128 ≤ x3 ∧ x3 ≤ 191) := by
  constructor
  · rintro ⟨⟨⟨⟨h3, h4⟩, h5⟩, h6⟩, h7⟩
    refine ⟨by omega, by omega, ⟨?_, ?_⟩, ⟨by omega, by omega⟩, by omega, by omega⟩
    · split <;> omega
    · split <;> omega
  · rintro ⟨h3, h4, ⟨h5, h6⟩, ⟨h7, h8⟩, h9, h10⟩
    split at h5 <;> split at h6 <;> omega
theorem ch_ru (r1 r2 r3 : Prop) [Decidable r1] [Decidable r2] [Decidable r3] (x0 x1 x2 x3 : Nat) (h0 : x0 < 256) (h1 : x1 < 256) (h2 : x2 < 256) (h3 : x3 < 256) :
    (chN r1 r2 r3 x0 x1 x2 x3 = 0 ∧ ruN r1 r2 r3 x0 x1 x2 x3 = (65533, 1) ∧ ¬ (r1 ∧ r2 ∧ x0 = 239 ∧ x1 = 191 ∧ x2 = 189)) ∨
    (0 < chN r1 r2 r3 x0 x1 x2 x3 ∧ (ruN r1 r2 r3 x0 x1 x2 x3).2 = chN r1 r2 r3 x0 x1 x2 x3 ∧ ((ruN r1 r2 r3 x0 x1 x2 x3).1 = 65533 → (r1 ∧ r2 ∧ x0 = 239 ∧ x1 = 191 ∧ x2 = 189))) := by
  by_cases a0 : x0 < 128
  · right
    unfold chN ruN
    rw [if_pos a0, if_pos a0]
    exact ⟨by omega, rfl, fun h => by simp only at h; omega⟩
  by_cases c2 : r1 ∧ 194 ≤ x0 ∧ x0 < 224 ∧ 128 ≤ x1 ∧ x1 ≤ 191
  · right
    obtain ⟨⟨g1, g2⟩, g3⟩ := (ru2 h0 h1).2 c2.2
    have e1 : chN r1 r2 r3 x0 x1 x2 x3 = 2 := by
      unfold chN
      rw [if_neg a0, if_neg, if_pos (by omega)]
      rintro (h | h | h)
      · omega
      · omega
      · refine h ⟨c2.1, ?_, ?_⟩
        · rw [if_neg (by omega), if_neg (by omega)]; omega
        · rw [if_neg (by omega), if_neg (by omega)]; omega
    have e2 : ruN r1 r2 r3 x0 x1 x2 x3 = ((x0 % 32) * 64 + x1 % 64, 2) := by
      unfold ruN
      rw [if_neg a0, if_pos ⟨g1, c2.1, g2⟩, if_pos g3]
    rw [e1, e2]
    exact ⟨by omega, rfl, fun h => by simp only at h; omega⟩
  by_cases c3 : r1 ∧ r2 ∧ (224 ≤ x0 ∧ x0 < 240 ∧ ((if x0 = 224 then 160 else 128) ≤ x1 ∧ x1 ≤ (if x0 = 237 then 159 else 191)) ∧ 128 ≤ x2 ∧ x2 ≤ 191)
  · right
    obtain ⟨k1, k2, k⟩ := c3
    obtain ⟨⟨⟨g1, g2⟩, g3⟩, g4⟩ := (ru3 h0 h1 h2).2 k
    have e1 : chN r1 r2 r3 x0 x1 x2 x3 = 3 := by
      unfold chN
      rw [if_neg a0, if_neg, if_neg (by omega), if_neg (fun h => h ⟨k2, k.2.2.2⟩), if_pos (by omega)]
      rintro (h | h | h)
      · omega
      · omega
      · refine h ⟨k1, ?_, ?_⟩
        · rw [if_neg (by omega)]; exact k.2.2.1.1
        · rw [if_neg (by omega)]; exact k.2.2.1.2
    have e2 : ruN r1 r2 r3 x0 x1 x2 x3 = ((x0 % 16) * 4096 + (x1 % 64) * 64 + x2 % 64, 3) := by
      unfold ruN
      rw [if_neg a0, if_neg (by omega), if_pos ⟨⟨g1, k1, g2⟩, k2, g3⟩, if_pos g4]
    rw [e1, e2]
    refine ⟨by omega, rfl, fun h => ?_⟩
    simp only at h
    exact ⟨k1, k2, by omega⟩
  by_cases c4 : r1 ∧ r2 ∧ r3 ∧ (240 ≤ x0 ∧ x0 ≤ 244 ∧ ((if x0 = 240 then 144 else 128) ≤ x1 ∧ x1 ≤ (if x0 = 244 then 143 else 191)) ∧ (128 ≤ x2 ∧ x2 ≤ 191) ∧ (128 ≤ x3 ∧ x3 ≤ 191))
  · right
    obtain ⟨k1, k2, k3, k⟩ := c4
    obtain ⟨⟨⟨⟨g1, g2⟩, g3⟩, g4⟩, g5⟩ := (ru4 h0 h1 h2 h3).2 k
    have e1 : chN r1 r2 r3 x0 x1 x2 x3 = 4 := by
      unfold chN
      rw [if_neg a0, if_neg, if_neg (by omega), if_neg (fun h => h ⟨k2, k.2.2.2.1⟩), if_neg (by omega), if_neg (fun h => h ⟨k3, k.2.2.2.2⟩)]
      rintro (h | h | h)
      · omega
      · omega
      · refine h ⟨k1, ?_, ?_⟩
        · have := k.2.2.1.1
          split at this
          · rename_i e; rw [if_pos e]; exact this
          · rename_i e; rw [if_neg e, if_neg (by omega)]; exact this
        · have := k.2.2.1.2
          split at this
          · rename_i e; rw [if_pos e]; exact this
          · rename_i e; rw [if_neg e, if_neg (by omega)]; exact this
    have e2 : ruN r1 r2 r3 x0 x1 x2 x3 = ((x0 % 8) * 262144 + (x1 % 64) * 4096 + (x2 % 64) * 64 + x3 % 64, 4) := by
      unfold ruN
      rw [if_neg a0, if_neg (by omega), if_neg (by omega), if_pos ⟨⟨⟨g1, k1, g2⟩, k2, g3⟩, k3, g4⟩, if_pos g5]
    rw [e1, e2]
    exact ⟨by omega, rfl, fun h => by simp only at h; omega⟩
  · left
    have e2 : ruN r1 r2 r3 x0 x1 x2 x3 = (65533, 1) := by
      unfold ruN
      rw [if_neg a0]
      split
      · rename_i g
        rw [if_neg fun g' => c2 ⟨g.2.1, (ru2 h0 h1).1 ⟨⟨g.1, g.2.2⟩, g'⟩⟩]
      split
      · rename_i g
        rw [if_neg fun g' => c3 ⟨g.1.2.1, g.2.1, (ru3 h0 h1 h2).1 ⟨⟨⟨g.1.1, g.1.2.2⟩, g.2.2⟩, g'⟩⟩]
      split
      · rename_i g
        rw [if_neg fun g' => c4 ⟨g.1.1.2.1, g.1.2.1, g.2.1, (ru4 h0 h1 h2 h3).1 ⟨⟨⟨⟨g.1.1.1, g.1.1.2.2⟩, g.1.2.2⟩, g.2.2⟩, g'⟩⟩]
      rfl
    have e3 : ¬ (r1 ∧ r2 ∧ x0 = 239 ∧ x1 = 191 ∧ x2 = 189) := by
      rintro ⟨k1, k2, rfl, rfl, rfl⟩
      exact c3 ⟨k1, k2, by simp⟩
    refine ⟨?_, e2, e3⟩
    unfold chN
    rw [if_neg a0]
    generalize hlo : (if x0 = 240 then 144 else if x0 = 224 then 160 else 128 : Nat) = lo
    generalize hhi : (if x0 = 244 then 143 else if x0 = 237 then 159 else 191 : Nat) = hi
    by_cases g : x0 < 194 ∨ 244 < x0 ∨ ¬ (r1 ∧ lo ≤ x1 ∧ x1 ≤ hi)
    · rw [if_pos g]
    rw [if_neg g]
    simp only [not_or, Decidable.not_not] at g
    obtain ⟨g1, g2, g3, g4, g5⟩ := g
    by_cases g6 : x0 < 224
    · rw [if_neg (by omega), if_neg (by omega)] at hlo hhi
      exact absurd ⟨g3, by omega, by omega, by omega, by omega⟩ c2
    rw [if_neg g6]
    by_cases g7 : ¬ (r2 ∧ 128 ≤ x2 ∧ x2 ≤ 191)
    · rw [if_pos g7]
    rw [if_neg g7]
    simp only [Decidable.not_not] at g7
    by_cases g8 : x0 < 240
    · rw [if_neg (by omega)] at hlo hhi
      subst hlo hhi
      exact absurd ⟨g3, g7.1, by omega, by omega, ⟨g4, g5⟩, g7.2⟩ c3
    rw [if_neg g8]
    by_cases g9 : ¬ (r3 ∧ 128 ≤ x3 ∧ x3 ≤ 191)
    · rw [if_pos g9]
    exfalso
    simp only [Decidable.not_not] at g9
    refine c4 ⟨g3, g7.1, g9.1, by omega, by omega, ⟨?_, ?_⟩, g7.2, g9.2⟩
    · by_cases e : x0 = 240
      · rw [if_pos e] at hlo ⊢; omega
      · rw [if_neg e] at hlo ⊢; rw [if_neg (by omega)] at hlo; omega
    · by_cases e : x0 = 244
      · rw [if_pos e] at hhi ⊢; omega
      · rw [if_neg e] at hhi ⊢; rw [if_neg (by omega)] at hhi; omega
theorem pre_iff {b : List Int} {n : Nat} (hs : byteR b) : spPre (b.drop n) [239, 191, 189] = true ↔ (n + 1 < b.length ∧ n + 2 < b.length ∧ (b.getD n 0).toNat = 239 ∧ (b.getD (n + 1) 0).toNat = 191 ∧ (b.getD (n + 2) 0).toNat = 189) := by
  unfold spPre
  rw [decide_eq_true_eq]
  show (b.drop n).take 3 = _ ↔ _
  constructor
  · intro h
    have hl := congrArg List.length h
    simp only [List.length_take, List.length_drop, List.length_cons, List.length_nil] at hl
    have h3 : n + 2 < b.length := by omega
    rw [List.drop_eq_getElem_cons (by omega), List.drop_eq_getElem_cons (by omega), List.drop_eq_getElem_cons (by omega)] at h
    simp only [List.take_succ_cons, List.take_zero, List.cons.injEq, and_true] at h
    obtain ⟨k1, k2, k3⟩ := h
    have k3 : b[n + 2] = 189 := k3
    rw [getD_lt (by omega), getD_lt (by omega), getD_lt h3, k1, k2, k3]
    exact ⟨by omega, by omega, rfl, rfl, rfl⟩
  · rintro ⟨h1, h2, h3, h4, h5⟩
    rw [getD_lt (by omega)] at h3 h4 h5
    rw [List.drop_eq_getElem_cons (by omega), List.drop_eq_getElem_cons (by omega), List.drop_eq_getElem_cons (by omega)]
    simp only [List.take_succ_cons, List.take_zero, List.cons.injEq, and_true]
    refine ⟨by omega, by omega, ?_⟩
    show b[n + 2] = 189
    omega
theorem rune_char {b : List Int} (hs : byteR b) {n : Nat} (h : n < b.length) :
    (spChar b n = 0 ∧ (spRune b n).1 = 65533 ∧ spPre (b.drop n) [239, 191, 189] = false) ∨
    (0 < spChar b n ∧ (spRune b n).2 = spChar b n ∧ ((spRune b n).1 = 65533 → spPre (b.drop n) [239, 191, 189] = true)) := by
  rw [spRune_nat, spChar_N hs h, decode_N hs n]
  have hx : ∀ k, (b.getD k 0).toNat < 256 := fun k => by rw [← mkStr_get hs]; exact UInt8.toNat_lt _
  have := ch_ru (n + 1 < b.length) (n + 2 < b.length) (n + 3 < b.length) _ _ _ _ (hx n) (hx (n + 1)) (hx (n + 2)) (hx (n + 3))
  rw [pre_iff hs, ← Bool.not_eq_true, pre_iff hs]
  rcases this with ⟨h1, h2, h3⟩ | ⟨h1, h2, h3⟩
  · left
    exact ⟨by rw [h1]; rfl, by rw [h2]; rfl, h3⟩
  · right
    exact ⟨by omega, by simp only; rw [h2], fun h => h3 (by simp only at h; omega)⟩

/-! ### internal/stringslite.HasPrefix -/
noncomputable abbrev iopPre0 : Io := ⟨[dS, dS], [], [], [dB], none⟩
noncomputable def FpPre0 (d : iopPre0.In) : Tr iopPre0.Res := .ret (.ret ((spPre d.1.1 d.1.2.1, ()), ()))
noncomputable abbrev cspPre0 : List (Nat × Hc) := []
noncomputable def hdpPre0 : Hd := hdT cspPre0
noncomputable def lppPre0 : Lp := lpT []

noncomputable def bodypPre0 (a0 : List Int) (a1 : List Int) : Option iopPre0.Res := bif decide ((↑a1.length : Int) ≤ (↑a0.length : Int)) then bif decide (0 ≤ 0) && (decide (0 ≤ (↑a1.length : Int)) && decide ((↑a1.length : Int) ≤ (↑a0.length : Int))) then some (Out.ret ((decide (List.drop (Int.toNat 0) (List.take (↑a1.length : Int).toNat a0) = a1), ()), ())) else none else some (Out.ret ((false, ()), ()))
theorem runpPre0 (a0 : List Int) (a1 : List Int) : Io.run tt hdpPre0 dr lppPre0 iopPre0 Go.Proofs.Try.f71 ((a0, a1, ()), ()) = bodypPre0 a0 a1 := by kernel_rfl
theorem okpPre0 : HcOk prog 71 (ioHd iopPre0 FpPre0) := by
  refine fn_sound (n := 400) hm (cs := cspPre0) .nil (lp := lppPre0) (fn := Go.Proofs.Try.f71) (by kernel_rfl) (by kernel_rfl) (by kernel_rfl) iopPre0 (.done (by kernel_rfl)) FpPre0 ?_
  rintro ⟨⟨(s : List Int), (p : List Int), ⟨⟩⟩, ⟨⟩⟩ out hw ho
  cases ho
  refine (runpPre0 s p).trans ?_
  show _ = some (Out.ret ((spPre s p, ()), ()))
  unfold bodypPre0
  by_cases h : p.length ≤ s.length
  · rw [bif_true (by simpa using h), bif_true (by simp; omega)]
    rfl
  · rw [bif_false (by simpa using h)]
    have : spPre s p = false := by
      unfold spPre
      rw [decide_eq_false_iff_not]
      intro e
      have := congrArg List.length e
      simp only [List.length_take] at this
      omega
    rw [this]

/-! ### strings.HasPrefix -/
noncomputable abbrev iopPre : Io := ⟨[dS, dS], [], [], [dB], none⟩
noncomputable def FpPre (d : iopPre.In) : Tr iopPre.Res := .ret (.ret ((spPre d.1.1 d.1.2.1, ()), ()))
noncomputable abbrev cspPre : List (Nat × Hc) := [(71, ioHd iopPre0 FpPre0)]
noncomputable def hdpPre : Hd := hdT cspPre
noncomputable def lppPre : Lp := lpT []

noncomputable def bodypPre (a0 : List Int) (a1 : List Int) : Option iopPre.Res := some (Out.ret ((spPre a0 a1, ()), ()))
theorem runpPre (a0 : List Int) (a1 : List Int) : Io.run tt hdpPre dr lppPre iopPre Go.Proofs.Try.f70 ((a0, a1, ()), ()) = bodypPre a0 a1 := by kernel_rfl
theorem okpPre : HcOk prog 70 (ioHd iopPre FpPre) := by
  refine fn_sound (n := 400) hm (cs := cspPre) (.cons okpPre0 .nil) (lp := lppPre) (fn := Go.Proofs.Try.f70) (by kernel_rfl) (by kernel_rfl) (by kernel_rfl) iopPre (.done (by kernel_rfl)) FpPre ?_
  rintro ⟨⟨(s : List Int), (p : List Int), ⟨⟩⟩, ⟨⟩⟩ out hw ho
  cases ho
  exact runpPre s p

theorem spUtfN_end (b : List Int) : ∀ (n : Nat) (p : Int), 0 ≤ p → p ≤ b.length → (b.length : Int) < p + n → (spUtfN b n p).2 = true → (spUtfN b n p).1 = b.length
  | 0, p, h0, h1, h2, h => by omega
  | n + 1, p, h0, h1, h2, h => by
    unfold spUtfN at h ⊢
    split
    · rename_i h3; simp only; omega
    · rename_i h3
      rw [if_neg h3] at h
      split
      · rename_i h4; rw [if_pos h4] at h; cases h
      · rename_i h4
        rw [if_neg h4] at h
        have h5 := spChar_le (b := b) h0 (show p < (b.length : Int) by omega)
        exact spUtfN_end b n _ (by omega) (by omega) (by omega) h
theorem spUtf_end (b : List Int) (h : (spUtf b).2 = true) : (spUtf b).1 = b.length := spUtfN_end b (b.length + 1) 0 (by omega) (by omega) (by omega) h

/-! ### leat/label.Utf -/
noncomputable abbrev iopUtf : Io := ⟨[dL], [], [], [dI, dB], none⟩
noncomputable def FpUtf (d : iopUtf.In) : Tr iopUtf.Res := .ret (.ret (((spUtf d.1.1).1, (spUtf d.1.1).2, ()), ()))
noncomputable abbrev cspUtf : List (Nat × Hc) := [(70, ioHd iopPre FpPre)]
noncomputable def hdpUtf : Hd := hdT cspUtf
noncomputable abbrev lopUtf_4 : Lo := ⟨⟨[.one (.hol (.sl 5 (Ty.int IntKind.u8))), .any, .any, .any, .one (.hol .str), .any, .any, .any, .any, .any, .one (.ptr 10 0), .any, .any, .any, .any, .any, .any, .any, .any, .any, .any, .any, .any, .any, .any, .any, .any], [none, none, none, none, none, none, none, none, none, none, some [.itr]]⟩, [(.ret, ⟨[.any, .any, .one (.hol (.int IntKind.i64)), .one (.hol .bool), .any, .any, .any, .any, .any, .any, .any, .any, .any, .any, .any, .any, .any, .any, .any, .any, .any, .any, .any, .any, .any, .any, .any], []⟩), (.exit 0, ⟨[.one (.hol (.sl 5 (Ty.int IntKind.u8))), .any, .any, .any, .any, .any, .any, .any, .any, .any, .any, .any, .any, .any, .any, .any, .any, .any, .any, .any, .any, .any, .any, .any, .any, .any, .any], []⟩)]⟩
-- FpUtf_4 : lopUtf_4.st.den → Tr (DenX lopUtf_4.xs) | ((h1, (h2, ())), ((h3, ()), ()))
noncomputable def FpUtf_4 (d : lopUtf_4.st.den) : Tr (DenX lopUtf_4.xs) :=
  .ite (decide (d.2.1.1.2 = (0 : Int)) && decide (d.2.1.1.1 = d.1.2.1)) (.ite (spUtf d.1.2.1).2 (.ret (.pan (.ret ((), ((d.1.1, ()), ()))))) (.ret (.ret ((), (((spUtf d.1.2.1).1, (false, ())), ()))))) .no
noncomputable def lppUtf : Lp := lpT [(4, loHd lopUtf_4 FpUtf_4)]
noncomputable def steppUtf_4 {R : Type} (h1 : List Int) (h2 : List Int) (h3 : List Int × Int) (next : List Int → List Int → List Int × Int → Option R) (out : DenX lopUtf_4.xs → Option R) : Option R := bif decide (h3.snd < (↑h3.fst.length : Int)) then bif (spRune h3.fst h3.snd).fst == 65533 then bif decide (0 ≤ h3.snd) && (decide (h3.snd ≤ (↑h2.length : Int)) && decide ((↑h2.length : Int) ≤ (↑h2.length : Int))) then bif !spPre (List.drop h3.snd.toNat (List.take (↑h2.length : Int).toNat h2)) (List.map (fun (c : UInt8) => (↑c.toNat : Int)) [UInt8.ofBitVec (BitVec.ofFin (Fin.mk (239 % 2 ^ 8) (Nat.mod_lt 239 (BitVec.ofNat._proof_1 8)))), UInt8.ofBitVec (BitVec.ofFin (Fin.mk (191 % 2 ^ 8) (Nat.mod_lt 191 (BitVec.ofNat._proof_1 8)))), UInt8.ofBitVec (BitVec.ofFin (Fin.mk (189 % 2 ^ 8) (Nat.mod_lt 189 (BitVec.ofNat._proof_1 8))))]) then out (.ret ((), ((h3.snd, (false, ())), ()))) else next (h1) (h2) ((h3.fst, h3.snd + (spRune h3.fst h3.snd).snd)) else none else next (h1) (h2) ((h3.fst, h3.snd + (spRune h3.fst h3.snd).snd)) else out (.pan (.ret ((), ((h1, ()), ()))))
noncomputable def itpUtf_4 (n : Nat) (h1 : List Int) (h2 : List Int) (h3 : List Int × Int) : Option (DenX lopUtf_4.xs) := lpN tt hdpUtf dr lppUtf 0 Go.Proofs.Try.f66 (topL Go.Proofs.Try.f66 0) n (lopUtf_4.st.mk' ((h1, (h2, ())), ((h3, ()), ()))) (decX lopUtf_4.xs)
theorem slpUtf_4 (n : Nat) (h1 : List Int) (h2 : List Int) (h3 : List Int × Int) : itpUtf_4 (n + 1) h1 h2 h3 = steppUtf_4 h1 h2 h3 (itpUtf_4 n) some := by kernel_rfl
theorem looppUtf (b s : List Int) (hs : byteR s) (hb : (s.length : Int) ≤ 9223372036854775807) : ∀ (k : Nat) (p : Int), 0 ≤ p → p ≤ s.length → (s.length : Int) < p + k →
    itpUtf_4 k b s (s, p) = if (spUtfN s k p).2 = true then some (.pan (.ret ((), ((b, ()), ())))) else some (.ret ((), (((spUtfN s k p).1, (false, ())), ()))) := by
  intro k
  induction k with
  | zero => intro p h0 h1 h2; omega
  | succ k ih =>
    intro p h0 h1 h2
    rw [slpUtf_4]
    unfold steppUtf_4
    change (bif decide (p < (s.length : Int)) then bif (spRune s p).1 == 65533 then bif decide (0 ≤ p) && (decide (p ≤ (s.length : Int)) && decide ((s.length : Int) ≤ (s.length : Int))) then bif !spPre (List.drop p.toNat (List.take (s.length : Int).toNat s)) [239, 191, 189] then some (.ret ((), ((p, (false, ())), ()))) else itpUtf_4 k b s (s, p + (spRune s p).2) else none else itpUtf_4 k b s (s, p + (spRune s p).2) else some (.pan (.ret ((), ((b, ()), ()))))) = _
    by_cases h3 : (s.length : Int) ≤ p
    · have h4 : ¬ p < (s.length : Int) := by omega
      have hS : spUtfN s (k + 1) p = (p, true) := by simp [spUtfN, h3]
      simp [hS, h4]
    · have h4 : p < (s.length : Int) := by omega
      obtain ⟨n, rfl⟩ := toNat_of h0
      have h5 := rune_char hs (show n < s.length by omega)
      have h6 := spChar_le h0 h4
      rw [bif_true (by simpa using h4), Int.toNat_natCast, Int.toNat_natCast, List.take_length]
      rcases h5 with ⟨g1, g2, g3⟩ | ⟨g1, g2, g3⟩
      · have hS : spUtfN s (k + 1) n = (↑n, false) := by simp [spUtfN, h3, g1]
        rw [hS, g3, bif_true (by simpa using g2), bif_true (by simp; omega)]
        rfl
      · have hS : spUtfN s (k + 1) n = spUtfN s k (n + spChar s n) := by
          simp only [spUtfN]
          rw [if_neg h3, if_neg (by omega)]
        rw [hS, g2]
        have hn := ih (n + spChar s n) (by omega) (by omega) (by omega)
        by_cases g4 : (spRune s n).1 = 65533
        · rw [bif_true (by simpa using g4), bif_true (by simp; omega), g3 g4]
          exact hn
        · rw [bif_false (by simpa using g4)]
          exact hn
noncomputable def bodypUtf (a0 : List Int) : Option iopUtf.Res := (FpUtf_4 ((a0, (a0, ())), (((a0, 0), ()), ()))).run fun y => match y with | .ret ((), ((x13, x14, ()), ())) => (some (Out.ret ((x13, x14, ()), ()))) | .pan (.ret ((), ((x15, ()), ()))) => (some (Out.ret (((↑x15.length : Int), true, ()), ())))
theorem runpUtf (a0 : List Int) : Io.run tt hdpUtf dr lppUtf iopUtf Go.Proofs.Try.f66 ((a0, ()), ()) = bodypUtf a0 := by kernel_rfl
theorem okpUtf : HcOk prog 66 (ioHd iopUtf FpUtf) := by
  refine fn_sound (n := 400) hm (cs := cspUtf) (.cons okpPre .nil) (lp := lppUtf) (fn := Go.Proofs.Try.f66) (by kernel_rfl) (by kernel_rfl) (by kernel_rfl) iopUtf
    (.step (h0 := loHd lopUtf_4 FpUtf_4) (by kernel_rfl) (loop_sound (n := 400) hm (cs := cspUtf) (.cons okpPre .nil) (lp := lppUtf) (fn := Go.Proofs.Try.f66) (.done (by kernel_rfl)) lopUtf_4 FpUtf_4 ?_) (.done (by kernel_rfl))) FpUtf ?_
  · rintro ⟨⟨(b : List Int), (s : List Int), ⟨⟩⟩, ⟨⟨⟨(s' : List Int), (p : Int)⟩, ⟨⟩⟩, ⟨⟩⟩⟩ y hw hy
    obtain ⟨hg, hy⟩ := Tr.guard hy
    simp only [Bool.and_eq_true, decide_eq_true_eq] at hg
    have hg1 : p = 0 := hg.1
    have hg2 : s' = s := hg.2
    subst hg1 hg2
    have hs : byteR s' ∧ s'.length ≤ maxLen := hw.1.2.1
    have hb := hs.2
    rw [maxLen_eq] at hb
    refine ⟨s'.length + 1, (looppUtf b s' hs.1 (by omega) (s'.length + 1) 0 (by omega) (by omega) (by omega)).trans ?_⟩
    rw [← hy]
    simp only [Tr.val_ite, Tr.val_ret]
    rfl
  · rintro ⟨⟨(b : List Int), ⟨⟩⟩, ⟨⟩⟩ out hw ho
    cases ho
    refine (runpUtf b).trans ?_
    unfold bodypUtf FpUtf_4
    show _ = some (Out.ret (((spUtf b).1, (spUtf b).2, ()), ()))
    simp only [Tr.run_ite, Tr.run_ret]
    have he : (spUtf b).2 = true → (spUtf b).1 = b.length := spUtf_end b
    generalize spUtf b = r at *
    obtain ⟨r1, r2⟩ := r
    cases r2 with
    | true =>
      have he : r1 = b.length := he rfl
      simp [he]
    | false => simp

end
end Go.Proofs.Ytnppjkijhcampaa.Sym
