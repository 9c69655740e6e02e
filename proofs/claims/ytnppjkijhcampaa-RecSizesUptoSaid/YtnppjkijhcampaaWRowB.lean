/- A row's bulk bounds what is written of it. -/
import Derived.Test.YtnppjkijhcampaaCRput
import Derived.Test.YtnppjkijhcampaaSymU

namespace Go.Proofs.Ytnppjkijhcampaa.Sym
open Go
set_option linter.unusedSimpArgs false
set_option linter.unusedVariables false
noncomputable section

theorem sum_ones {k : IntKind} : ∀ b : List Int, (List.map (dsz (.int k)) b).sum = b.length
  | [] => rfl
  | c :: b => by
    have := sum_ones (k := k) b
    rw [List.map_cons, List.sum_cons, this, List.length_cons]
    show 1 + _ = _
    omega
theorem dsz_bs (b : List Int) : dsz bs b = b.length + 1 := by
  show (List.map (dsz (.int .u8)) b).sum + 1 = _
  rw [sum_ones]
theorem spBlob_len (B : Blob) : (spBlob B).length ≤ 11 + B.2.1.length := by
  unfold spBlob
  split
  · have := spDig_len (spZig (-1)); omega
  · have := spDig_len (spZig B.2.1.length)
    simp only [List.length_append]
    omega
theorem dsz_blob (B : Blob) : dsz tBlob B = B.2.1.length + 2 := by
  show 1 + (dsz bs B.2.1 + 0) = _
  rw [dsz_bs]
  omega
theorem dsz_head (h : Head) : dsz tHead h = h.1.length + 1 + (h.2.1.2.1.length + 2) := by
  show (h.1.length + 1) + (dsz tBlob h.2.1 + 0) = _
  rw [dsz_blob]
theorem heads_bulk : ∀ hs : List Head, (spWHeads hs).length ≤ 22 * (List.map (dsz tHead) hs).sum ∧ hs.length ≤ (List.map (dsz tHead) hs).sum ∧ ∀ h ∈ hs, h.2.1.2.1.length ≤ (List.map (dsz tHead) hs).sum
  | [] => ⟨by simp [spWHeads], by simp, by simp⟩
  | h :: hs => by
    obtain ⟨g1, g2, g3⟩ := heads_bulk hs
    have e : spWHeads (h :: hs) = spWHead h ++ spWHeads hs := by simp [spWHeads]
    have h1 := spDig_len (spZig h.1.length)
    have h2 := spBlob_len h.2.1
    have h3 : (spWHead h).length = (spDig (spZig h.1.length)).length + (h.1.length + (spBlob h.2.1).length) := by simp [spWHead]
    rw [List.map_cons, List.sum_cons, dsz_head, e, List.length_append, List.length_cons]
    refine ⟨by omega, by omega, fun x hx => ?_⟩
    rcases List.mem_cons.1 hx with rfl | hx
    · omega
    · have := g3 x hx; omega
theorem row_bulk {r : RowD} (h : dsz tRow r ≤ 1048576) : spSmallR r = true ∧ spRoom r = true := by
  obtain ⟨a0, a1, B1, B2, hs, ⟨⟩⟩ := r
  have hd : dsz tRow (a0, a1, B1, B2, hs, ()) = 1 + (1 + (dsz tBlob B1 + (dsz tBlob B2 + (((List.map (dsz tHead) hs).sum + 1) + 0)))) := rfl
  rw [hd, dsz_blob, dsz_blob] at h
  obtain ⟨g1, g2, g3⟩ := heads_bulk hs
  refine ⟨?_, ?_⟩
  · show (decide (B1.2.1.length ≤ 4294967296) && (decide (B2.2.1.length ≤ 4294967296) && spSmall hs)) = true
    simp only [Bool.and_eq_true, decide_eq_true_eq]
    refine ⟨by omega, by omega, spSmall_iff.2 ⟨by omega, fun h hh => ?_⟩⟩
    have := g3 h hh
    omega
  · refine decide_eq_true ?_
    have e : spBody (a0, a1, B1, B2, hs, ()) = 0 :: (spDig (spZig a0) ++ (spDig (spZig a1) ++ (spBlob B1 ++ (spBlob B2 ++ (spDig (spZig hs.length) ++ spWHeads hs))))) := rfl
    have h1 := spDig_len (spZig a0)
    have h2 := spDig_len (spZig a1)
    have h3 := spDig_len (spZig hs.length)
    have h4 := spBlob_len B1
    have h5 := spBlob_len B2
    rw [e]
    simp only [List.length_cons, List.length_append]
    omega
end
end Go.Proofs.Ytnppjkijhcampaa.Sym
