/- A region that may be carried out in several orders, where what is reached depends only on which operations have come. -/
import Derived.Test.YtnppjkijhcampaaSymU

namespace Go.Proofs.Ytnppjkijhcampaa.Sym
open Go
set_option linter.unusedSimpArgs false
set_option linter.unusedVariables false

def AllP {α : Type} (Q : α → Prop) : List α → Prop
  | [] => True
  | a :: l => Q a ∧ AllP Q l
theorem AllP.mem {α : Type} {Q : α → Prop} : ∀ {l : List α}, AllP Q l → ∀ a ∈ l, Q a
  | _ :: _, h, a, ha => by
    rcases List.mem_cons.1 ha with rfl | ha
    · exact h.1
    · exact AllP.mem h.2 a ha
  | [], _, a, ha => by cases ha

noncomputable section
/-- One operation of a region. -/
def stepI (tt : TT) (hd : Hd) (kb : Nat) (ops : Array Oper) (i : Nat) (A : AS) (K : AS → Option Unit) : Option Unit :=
  match ops[i]? with
  | some o => guarded ops o A (fun A => evOp tt hd kb [] o A fun ex A' => match ex with
    | .normal => K A'
    | _ => none) K
  | none => none
/-- All that may have come, and what may come next. -/
def nextI (ops : Array Oper) (L : Array Bool) : List (Array Bool × Nat) := (Region.ready .any ops L).map fun i => (L, i)
def levI (ops : Array Oper) : Nat → List (Array Bool)
  | 0 => [Array.replicate ops.size false]
  | n + 1 => ((levI ops n).flatMap fun L => (nextI ops L).map fun p => p.1.setIfInBounds p.2 true).eraseDups
def pairsI (ops : Array Oper) : List (Array Bool × Nat) := (List.range ops.size).flatMap fun n => (levI ops n).flatMap (nextI ops)
/-- Each way of all goes on and ends. -/
def okI (ops : Array Oper) : Nat → Nat → Bool
  | 0, n => (levI ops n).all fun L => (Region.ready .any ops L).isEmpty
  | k + 1, n => ((levI ops n).all fun L => !(Region.ready .any ops L).isEmpty && (Region.ready .any ops L).all fun i => (levI ops (n + 1)).contains (L.setIfInBounds i true)) && okI ops k (n + 1)

section
variable {P : Program} {tt : TT}
theorem ideals_sound (htt : TTok P tt) {hd : Hd} (hh : HdOk P hd) {F : Fra} {cst : List (Array Value)} {kb : Nat} (hkb : ∀ d, F.mu0 (kb + d) = none) {ops : Array Oper} {Q : Exit → Act → World → Prop} {dfs : List Deferred}
    (st : Array Bool → AS) (hs : ∀ n, n < ops.size → ∀ L ∈ levI ops n, ∀ i ∈ Region.ready .any ops L, ∀ K, stepI tt hd kb ops i (st L) K = K (st (L.setIfInBounds i true)))
    (hQ : ∀ L ∈ levI ops ops.size, ∀ G a w, Rel F G (st L) a.tmps cst w → a.defers = dfs → Q .normal a w) :
    ∀ (k n : Nat), n + k = ops.size → okI ops k n = true → ∀ L ∈ levI ops n, ∀ G a w, Rel F G (st L) a.tmps cst w → a.defers = dfs → wpAny P .any ops Q k L a w
  | 0, n, hn, hok, L, hL, G, a, w, R, hd' => by
    simp only [okI, List.all_eq_true, List.isEmpty_iff] at hok
    simp only [Nat.add_zero] at hn
    subst hn
    exact ⟨hok L hL, hQ L hL G a w R hd'⟩
  | k + 1, n, hn, hok, L, hL, G, a, w, R, hdf => by
    simp only [okI, Bool.and_eq_true, List.all_eq_true, Bool.not_eq_true', List.isEmpty_eq_false_iff, List.contains_iff_mem] at hok
    obtain ⟨hok, hok'⟩ := hok
    obtain ⟨h1, h2⟩ := hok L hL
    refine ⟨fun e => absurd e h1, fun i hi => ?_⟩
    have hst := hs n (by omega) L hL i hi
    have hL' := h2 i hi
    have ih := ideals_sound htt hh hkb st hs hQ k (n + 1) (by omega) hok' (L.setIfInBounds i true) hL'
    have hst1 := hst fun A => open Classical in if A = st (L.setIfInBounds i true) then some () else none
    rw [if_pos rfl] at hst1
    unfold stepI at hst1
    unfold wpOp
    cases ho : ops[i]? with
    | none => rw [ho] at hst1; cases hst1
    | some o =>
      rw [ho] at hst1
      simp only at hst1 ⊢
      rcases guarded_cases R hst1 with ⟨hw, A1, R1, g1⟩ | ⟨hw, A1, R1, g1⟩
      · rw [if_pos hw]
        refine .inl (evOp_sound htt hh R1 hkb [] o g1 ?_)
        intro ex A' G' a' w' R' hd' hk
        cases ex with
        | normal =>
          intro _
          simp only at hk
          split at hk
          · rename_i e; subst e; exact ih G' a' w' R' (hd'.trans hdf)
          · cases hk
        | exit id => cases hk
        | ret => cases hk
        | panic v => cases hk
      · rw [if_neg (by simp [hw])]
        split at g1
        · rename_i e; subst e; exact ih G _ w R1 ((Act.put_defers' _ _ _).trans hdf)
        · cases g1

/-- The region, by what is reached. -/
theorem region_ideals (htt : TTok P tt) (hm : P.follows .mixedOrders = true) {hd : Hd} (hh : HdOk P hd) {F : Fra} {cst : List (Array Value)} {kb : Nat} (hkb : ∀ d, F.mu0 (kb + d) = none) {id : Nat} {ops : Array Oper} {Q : Exit → Act → World → Prop}
    (st : Array Bool → AS) (hok : okI ops ops.size 0 = true) (hs : AllP (fun p => ∀ K, stepI tt hd kb ops p.2 (st p.1) K = K (st (p.1.setIfInBounds p.2 true))) (pairsI ops))
    {G : Gh} {a : Act} {w : World} (R : Rel F G (st (Array.replicate ops.size false)) a.tmps cst w)
    (hQ : ∀ L ∈ levI ops ops.size, ∀ G' a' w', Rel F G' (st L) a'.tmps cst w' → a'.defers = a.defers → Q .normal a' w') : (Code.region id ops true).wp P Q a w := by
  refine wp_region_any hm ?_
  refine ideals_sound htt hh hkb st (fun n hn L hL i hi K => hs.mem (L, i) ?_ K) hQ ops.size 0 (by omega) hok _ (by simp [levI]) G a _ R.drew rfl
  simp only [pairsI, List.mem_flatMap, List.mem_range, nextI, List.mem_map]
  exact ⟨n, hn, L, hL, i, hi, rfl⟩
end
end

end Go.Proofs.Ytnppjkijhcampaa.Sym
