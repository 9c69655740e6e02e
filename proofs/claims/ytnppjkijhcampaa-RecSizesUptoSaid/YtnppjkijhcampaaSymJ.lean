/- Soundness of the operations that touch memory, joined. -/
import Derived.Test.YtnppjkijhcampaaSymI

namespace Go.Proofs.Ytnppjkijhcampaa.Sym
open Go
set_option linter.unusedSimpArgs false
set_option linter.unusedVariables false

section
variable {P : Program} {tt : TT}

theorem noOwn_zero : C.noOwn 0 = id := by
  funext c
  cases c with
  | lst e t xs own =>
    simp only [C.noOwn, id]
    split
    · rename_i h; rw [beq_iff_eq] at h; rw [h]
    · rfl
  | _ => rfl
theorem V.solid_map (f : C → C) (v : V) : (v.map f).solid = v.solid := by cases v <;> rfl
theorem V.cells_map (f : C → C) (v : V) : (v.map f).cells = v.cells.map f := by cases v <;> rfl
theorem retype_cells (id t : Nat) (v : V) : (retype tt id t v).cells.length = v.cells.length ∧ (retype tt id t v).solid = v.solid := by cases v <;> exact ⟨rfl, rfl⟩

theorem run_newRow (w : World) (t : TypeId) (cs : Array Value) : (newRow t cs).run P w = .ok ⟨w.heap.size, 0, none⟩ (w.alloc (.cells cs t)) := by
  simp [newRow, newObj, Sem.run]

theorem fill_seq (size : Nat) : ∀ (ps : List (Nat × Value)) (k : Nat) (cur : Array Value), (∀ j p, ps[j]? = some p → p.1 = k + j ∧ p.2.cells.size = size) → (k + ps.length) * size ≤ cur.size →
    ∃ cur', Instr.fill (fun i => some (i * size, size)) cur ps = some cur' ∧ cur'.toList = cur.toList.take (k * size) ++ (ps.map fun p => p.2.cells.toList).flatten ++ cur.toList.drop ((k + ps.length) * size)
  | [], k, cur, _, _ => ⟨cur, by simp [Instr.fill], by simp⟩
  | (i, v) :: ps, k, cur, h, hl => by
    obtain ⟨hi, hv⟩ := h 0 (i, v) rfl
    simp only [Nat.add_zero] at hi hv
    subst hi
    simp only [List.length_cons] at hl
    have hl1 : i * size + size ≤ cur.size := by
      have : (i + 1) * size ≤ (i + (ps.length + 1)) * size := Nat.mul_le_mul_right _ (by omega)
      rw [Nat.add_mul, Nat.one_mul] at this; omega
    have hset := foldl_set v.cells.toList cur (i * size) 0 (by simp; omega)
    have hsz : ((v.cells.zipIdx.foldl (fun cs (c, j) => cs.setIfInBounds (i * size + j) c) cur)).toList = splice cur.toList (i * size) v.cells.toList := by
      rw [← Array.foldl_toList, Array.toList_zipIdx]
      simpa using hset
    have hlen : (v.cells.zipIdx.foldl (fun cs (c, j) => cs.setIfInBounds (i * size + j) c) cur).size = cur.size := by
      have := congrArg List.length hsz
      rw [splice_length (by simp; omega)] at this
      simpa using this
    obtain ⟨cur', h1, h2⟩ := fill_seq size ps (i + 1) (v.cells.zipIdx.foldl (fun cs (c, j) => cs.setIfInBounds (i * size + j) c) cur) (fun j p hp => by
      have := h (j + 1) p (by simpa using hp)
      exact ⟨by omega, this.2⟩) (by rw [hlen]; have : i + 1 + ps.length = i + (ps.length + 1) := by omega
                                    rw [this]; exact hl)
    refine ⟨cur', ?_, ?_⟩
    · have hb : ¬ (cur.size < i * size + size) := by omega
      simp only [Instr.fill, hv, ne_eq, not_true, decide_false, Bool.false_or, decide_eq_true_eq, gt_iff_lt, hb, if_false]
      exact h1
    · rw [h2, hsz]
      simp only [splice, List.map_cons, List.flatten_cons, List.length_cons]
      have e0 : v.cells.toList.length = size := by simpa using hv
      have e1 : (i + 1) * size = i * size + size := by rw [Nat.add_mul, Nat.one_mul]
      have e2 : (cur.toList.take (i * size)).length = i * size := by simp; omega
      rw [show i + 1 + ps.length = i + (ps.length + 1) by omega]
      have t1 : (cur.toList.take (i * size) ++ v.cells.toList ++ cur.toList.drop (i * size + v.cells.toList.length)).take ((i + 1) * size) = cur.toList.take (i * size) ++ v.cells.toList := by
        rw [List.take_append_of_le_length (by rw [List.length_append, e2, e0, e1]; exact Nat.le_refl _)]
        exact List.take_of_length_le (by rw [List.length_append, e2, e0, e1]; exact Nat.le_refl _)
      have t2 : (cur.toList.take (i * size) ++ v.cells.toList ++ cur.toList.drop (i * size + v.cells.toList.length)).drop ((i + (ps.length + 1)) * size) = cur.toList.drop ((i + (ps.length + 1)) * size) := by
        have hle : (i + 1) * size ≤ (i + (ps.length + 1)) * size := Nat.mul_le_mul_right _ (by omega)
        rw [List.drop_append, List.drop_of_length_le (by rw [List.length_append, e2, e0]; omega), List.nil_append, List.drop_drop, List.length_append, e2, e0]
        congr 1
        omega
      rw [t1, t2]
      simp

theorem castAll_sound {F : Fra} {G : Gh} {A : AS} {a : Act} {cst : List (Array Value)} {w : World} (R : Rel F G A a.tmps cst w) (ty : Ty) : ∀ (ps : List (Nat × Operand)) (n : Nat) (xs : List ty.den), castAll ty A n ps = some xs →
    Flat G.S w ty xs (ps.map fun p => (a.eval p.2).cells.toList) ∧ ∀ j p, ps[j]? = some p → p.1 = n + j
  | [], n, xs, h => by
    simp only [castAll, Option.some.injEq] at h
    subst h
    exact ⟨⟨rfl, fun i x hx => by simp at hx⟩, fun j p hp => by simp at hp⟩
  | (i, x) :: ps, n, xs, h => by
    simp only [castAll] at h
    cases hi : i == n with
    | false => rw [hi] at h; cases h
    | true =>
      rw [hi] at h
      simp only [cond_true] at h
      rw [beq_iff_eq] at hi
      split at h
      · rename_i d ds h1 h2
        cases h
        obtain ⟨hF, hI⟩ := castAll_sound R ty ps (n + 1) ds h2
        have hr := castV_sound h1 (R.opd x)
        refine ⟨⟨by simp [hF.len], fun j y hy => ?_⟩, fun j p hp => ?_⟩
        · cases j with
          | zero => simp only [List.getElem?_cons_zero, Option.some.injEq] at hy; subst hy; exact ⟨_, rfl, hr⟩
          | succ j => simpa using hF.at_ j y (by simpa using hy)
        · cases j with
          | zero => simp only [List.getElem?_cons_zero, Option.some.injEq] at hp; subst hp; exact hi
          | succ j => have := hI j p (by simpa using hp); omega
      · cases h

theorem flat_single {α β : Type} (f : α → β) : ∀ l : List α, (l.map fun c => [f c]).flatten = l.map f
  | [] => rfl
  | x :: l => by rw [List.map_cons, List.flatten_cons, flat_single f l]; rfl

/-- What is appended, as cells. -/
theorem appSrc_sound (htt : TTok P tt) {G : Gh} {w : World} {e : Nat} {ty : Ty} {t : Nat} {v : V} {u : Value} {ys : List ty.den} (h : appSrc tt e ty t v = some ys) (hr : Rv G w v u) :
    ∃ (d : TypeDesc) (css : List (List Value)), P.underlying t = some d ∧ ((∃ e', d = .slice e') ∨ d = .string) ∧ Builtin.lenOf u = Sem.pure ys.length ∧ Flat G.S w ty ys css ∧ ys.length ≤ maxLen ∧
      ∀ w' : World, Kept G.S G.S w w' → (Builtin.firstCells ty.size ys.length u).run P w' = .ok css.flatten.toArray w' := by
  unfold appSrc at h
  split at h
  · rename_i e' c hd
    cases hz : e' == e with
    | false => rw [hz] at h; cases h
    | true =>
      rw [hz] at h
      have hrt := castC_sound _ _ _ _ h hr
      obtain ⟨A, cap, ev, h1, h2, h3⟩ := hrt
      simp only [List.cons.injEq, and_true] at ev
      have hrow : Row G.S w ty A ys := h3
      obtain ⟨css, hF, hc⟩ := hrow.flat
      refine ⟨_, css, (htt t (by rw [hd]; simp)).sl hd, .inl ⟨_, rfl⟩, by rw [ev]; rfl, hF, Nat.le_trans h1 h2, fun w' k => ?_⟩
      have hlen : css.flatten.length = ys.length * ty.size := by rw [flat_length css hF.size, hF.len]
      rw [ev]
      by_cases hne : ys = []
      · subst hne
        have : css = [] := List.eq_nil_of_length_eq_zero hF.len
        subst this
        cases A with
        | none => simp [Builtin.firstCells]
        | some ad => simp [Builtin.firstCells, loadCells, loadCellsFrom]
      · obtain ⟨b, o, rfl, hcc⟩ := hc hne
        refine run_firstCells_some (P := P) w' ty.size ys.length ⟨b, o, none⟩ _ cap css.flatten hlen fun j v hv => ?_
        rw [Addr.add_plain]
        obtain ⟨hs, hcell⟩ := hcc j v hv
        rw [(k b (o + j) hs).2]; exact hcell
  · rename_i s hd
    split at h
    · rename_i hty
      subst hty
      simp only [Option.some.injEq] at h
      subst h
      obtain ⟨ev, hb, hl⟩ := hr
      have hF : Flat G.S w (.int .u8) (s : List (Ty.den (.int .u8))) (s.map fun c => [Value.int .u8 c]) := by
        refine ⟨by simp, fun i x hx => ?_⟩
        have hm : x ∈ s := List.mem_of_getElem? hx
        have := hb x hm
        refine ⟨[.int .u8 x], by simp [hx], rfl, ?_⟩
        simp [inR, IntKind.min, IntKind.max, IntKind.signed, IntKind.bits]; omega
      refine ⟨_, _, (htt t (by rw [hd]; simp)).str hd, .inr rfl, by rw [ev]; simp [Builtin.lenOf, mkStr_size]; rfl, hF, hl, fun w' _ => ?_⟩
      rw [ev]
      have := Lib.run_firstCells_string (P := P) w' 1 (mkStr s)
      rw [mkStr_size] at this
      rw [show (Ty.int IntKind.u8).size = 1 from rfl, this]
      congr 2
      simp only [Lib.strCells, mkStr, List.map_map]
      rw [flat_single]
      refine List.map_congr_left fun c hc => ?_
      have := hb c hc
      simp only [Function.comp_apply]
      rw [UInt8.toNat_ofNat', Nat.mod_eq_of_lt (by omega)]
      congr 1
      omega
    · cases h
  · cases h
end

end Go.Proofs.Ytnppjkijhcampaa.Sym
