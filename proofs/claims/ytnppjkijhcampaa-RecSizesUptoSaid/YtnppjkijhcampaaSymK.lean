/- Soundness of the operations that touch memory: append, and all of them. -/
import Derived.Test.YtnppjkijhcampaaSymJ
import Derived.Laws.RangeString

namespace Go.Proofs.Ytnppjkijhcampaa.Sym
open Go
set_option linter.unusedSimpArgs false
set_option linter.unusedVariables false

section
variable {P : Program} {tt : TT}

theorem Rows.append {S : Nat → Nat → Prop} {w : World} {t : Ty} {b o : Nat} {xs ys : List t.den} (h : Rows S w t b o xs) (h' : Rows S w t b (o + xs.length * t.size) ys) : Rows S w t b o (xs ++ ys) := by
  intro i x hx
  rw [List.getElem?_append] at hx
  split at hx
  · exact h i x hx
  · rename_i hlt
    obtain ⟨c, hr, ha⟩ := h' _ x hx
    refine ⟨c, hr, ?_⟩
    have e : o + xs.length * t.size + (i - xs.length) * t.size = o + i * t.size := by
      rw [Nat.add_assoc, ← Nat.add_mul]; congr 2; omega
    rw [e] at ha; exact ha
theorem Rows.kept {S S' : Nat → Nat → Prop} {w w' : World} (k : Kept S S' w w') {t : Ty} {b o : Nat} {xs : List t.den} (h : Rows S w t b o xs) : Rows S' w' t b o xs :=
  fun i x hx => let ⟨c, hr, ha⟩ := h i x hx; ⟨c, Rt.kept k t x c hr, ha.kept k⟩

/-- The object that a store writes. -/
def stTouch (A : AS) (op : Op) (k : Nat) : Prop := match op with
  | .store _ a _ => match opd A a with
    | .one (.ptr j _) => k = j
    | _ => True
  | _ => False
/-- What a step leaves as it was: the protected cells, and the objects under all keys but X's. -/
structure Unt (G G' : Gh) (X : Nat → Prop) (w w' : World) : Prop where
  kept : Kept G.S G'.S w w'
  mu : ∀ key b, ¬ X key → G.mu key = some b → G'.mu key = some b ∧ w'.heap[b]? = w.heap[b]?
theorem Goes.unt {G G' : Gh} {w w' : World} {k i : Option Nat} (g : Goes G G' w w' k i) {X : Nat → Prop} (hX : ∀ key, k = some key → X key) (hh : ∀ key b, ¬ X key → G.mu key = some b → w'.heap[b]? = w.heap[b]?) : Unt G G' X w w' :=
  ⟨g.kept, fun key b hx hb => ⟨g.mu key b hb (fun e => hx (hX key e.symm)), hh key b hx hb⟩⟩
theorem Unt.weaken {G G' : Gh} {w w' : World} {X Y : Nat → Prop} (h : Unt G G' X w w') (hXY : ∀ k, X k → Y k) : Unt G G' Y w w' := ⟨h.kept, fun key b hy hb => h.mu key b (fun hx => hy (hXY _ hx)) hb⟩
theorem Unt.refl (G : Gh) (X : Nat → Prop) (w : World) : Unt G G X w w := ⟨.refl _ _, fun _ _ _ h => ⟨h, rfl⟩⟩
theorem Grew.mu {F : Fra} {G : Gh} {w w' : World} (g : Grew w w') (h : GhOk F G w) {key b : Nat} (hb : G.mu key = some b) : w'.heap[b]? = w.heap[b]? := g.old b (h.mu key b hb).2.2

theorem append_sound (htt : TTok P tt) {F : Fra} {G : Gh} {A : AS} {ts : Array Value} {cst : List (Array Value)} {w : World} (R : Rel F G A ts cst w)
    {t t' e own type : Nat} {ty : Ty} {xs ys : List ty.den} {sv xv : Value} {v : V} (hS : P.underlying t = some (.slice e)) (hT : TIok P e (tt.at e)) (hsz : (tt.at e).size = ty.size) (hpos : 0 < ty.size)
    (hby : (tt.at e).bytes ≤ 4096) (hb0 : (tt.at e).bytes ≠ 0) (hzl : (tt.at e).zero.length = ty.size) (hown : own ≠ 0) (hs : Rc G w (.lst e ty xs own) sv) (hx : appSrc tt e ty t' v = some ys) (hxv : Rv G w v xv)
    (hl : xs.length + ys.length ≤ 4294967296) :
    ∃ u w' G', Unt G G' (fun _ => False) w w' ∧ (Builtin.append_ #[t, t'] type #[sv, xv]).run P w = .ok u w' ∧ Rel F G' (A.map (C.noOwn own)) ts cst w' ∧ Rc G' w' (.lst e ty (xs ++ ys) own) u := by
  obtain ⟨d, css, htx, hd, hlen, hF, _, hfc⟩ := appSrc_sound htt hx hxv
  obtain ⟨i, z, hi, hi1, hi2, hz, hzc⟩ := hT.bytesOf
  obtain ⟨Ad, cap, rfl, hlc, hcap, hrow, hO⟩ := hs
  have hisz : i.size = ty.size := hi1.trans hsz
  by_cases hm : ys = []
  · subst hm
    have hr := run_append_zero (P := P) (w := w) (ty := type) hS hi htx hd Ad xs.length cap hlc xv hlen (by
      have := hfc w (Kept.refl _ _)
      rw [hisz]
      have hc0 : css = [] := List.eq_nil_of_length_eq_zero hF.len
      rw [hc0] at this
      exact this)
    have g : Goes G G w w none (some own) := ⟨.refl _ _, fun _ _ h _ => h, fun _ _ _ h _ => ⟨h, rfl⟩⟩
    refine ⟨_, w, G, g.unt (fun _ e => by cases e) (fun _ _ _ _ => rfl), hr, R.map (fun c v h => h.noOwn g) (fun _ => rfl) (fun _ _ h => ⟨h, rfl⟩) R.gh, ?_⟩
    rw [List.append_nil]
    exact ⟨Ad, cap, rfl, hlc, hcap, hrow, hO⟩
  · have hmpos : 0 < ys.length := List.length_pos_iff.2 hm
    have hcl : css.flatten.length = ys.length * ty.size := by rw [flat_length css hF.size, hF.len]
    -- a new row
    have hnew : cap < xs.length + ys.length → ∃ u w' G', Unt G G' (fun _ => False) w w' ∧ (Builtin.append_ #[t, t'] type #[.slice Ad xs.length cap, xv]).run P w = .ok u w' ∧ Rel F G' (A.map (C.noOwn own)) ts cst w' ∧ Rc G' w' (.lst e ty (xs ++ ys) own) u := by
      intro hg
      obtain ⟨dss, hD, hdc⟩ := hrow.flat
      have hdl : dss.flatten.length = xs.length * ty.size := by rw [flat_length dss hD.size, hD.len]
      have hk : Kept G.S G.S w w.drew := fun _ _ h => ⟨h, rfl⟩
      have holds : (Builtin.firstCells i.size xs.length (.slice Ad xs.length cap)).run P w.drew = .ok dss.flatten.toArray w.drew := by
        rw [hisz]
        by_cases hne : xs = []
        · subst hne
          have : dss = [] := List.eq_nil_of_length_eq_zero hD.len
          subst this
          cases Ad with
          | none => simp [Builtin.firstCells]
          | some ad => simp [Builtin.firstCells, loadCells, loadCellsFrom]
        · obtain ⟨b, o, rfl, hcc⟩ := hdc hne
          refine run_firstCells_some (P := P) w.drew ty.size xs.length ⟨b, o, none⟩ _ cap dss.flatten hdl fun j v hv => ?_
          rw [Addr.add_plain]
          exact (hcc j v hv).2
      have hfit : Builtin.nextslicecap (xs.length + ys.length) cap * i.bytes ≤ 281474976710656 := by
        refine growslice_fits hg ?_
        rw [hi2]
        have := Nat.mul_le_mul hl hby
        omega
      have hr := run_append_new (P := P) (w := w) (ty := type) hS hi hz htx hd Ad xs.length cap ys.length dss.flatten holds xv css.flatten hlen (by rw [hisz]; exact hfc w.drew hk) hg (by omega) hfit
      have hgc := grownCap_ge w (xs.length + ys.length) cap e
      have hgm := grownCap_le_maxLen w (xs.length + ys.length) cap e (by simp only [maxLen]; omega)
      let cur : Array Value := dss.flatten.toArray ++ css.flatten.toArray ++ Builtin.zeroCells z.cells (grownCap w (xs.length + ys.length) cap e - (xs.length + ys.length))
      have hgr : Grew w (w.drew.alloc (.cells cur e)) := Grew.drewAlloc w _
      have R' := R.fresh hgr ((xs.length + ys.length) * ty.size) own
      have hh : (w.drew.alloc (.cells cur e)).heap[w.heap.size]? = some (.cells cur e (0, 0)) := heap_alloc_new w.drew _
      have hk' : Kept G.S (G.fresh w.heap.size ((xs.length + ys.length) * ty.size) own).S w (w.drew.alloc (.cells cur e)) := (Goes.fresh R.gh hgr _ own).kept
      refine ⟨_, _, _, (Goes.fresh R.gh hgr ((xs.length + ys.length) * ty.size) own).unt (fun _ e => by cases e) (fun key b _ hb => hgr.mu R.gh hb), hr, R', _, _, by rw [List.length_append], by rw [List.length_append]; exact hgc, hgm, ?_, .inr (.inr ⟨w.heap.size, cur, e, rfl, by simp [Gh.fresh], hh, ?_⟩)⟩
      · refine Rows.row (Flat.rows ((hD.append hF).kept hk') fun j v hv => ?_)
        rw [Nat.zero_add, List.flatten_append] at *
        have hj : j < (xs.length + ys.length) * ty.size := by
          have := (List.getElem?_eq_some_iff.1 hv).1
          rw [List.length_append, hdl, hcl, ← Nat.add_mul] at this
          exact this
        refine ⟨.inr ⟨rfl, hj⟩, ?_⟩
        rw [cell_at hh]
        have e1 : cur.toList = (dss.flatten ++ css.flatten) ++ (Builtin.zeroCells z.cells (grownCap w (xs.length + ys.length) cap e - (xs.length + ys.length))).toList := by simp [cur]
        rw [e1, List.getElem?_append_left (by rw [List.length_append, hdl, hcl, ← Nat.add_mul]; exact hj)]
        exact hv
      · have hzs : z.cells.size = ty.size := by rw [← hzl, ← hzc]; simp
        simp only [cur, Array.size_append, List.size_toArray, size_zeroCells, hzs, hdl, hcl, ← Nat.add_mul]
        congr 1
        omega
    by_cases hroom : xs.length + ys.length ≤ cap
    · rcases hO with hO | ⟨_, hO⟩ | ⟨b, cur, el, rfl, ho, hh, hcs⟩
      · exact absurd hO hown
      · omega
      · have hfit : xs.length * i.size + css.flatten.length ≤ cur.size := by
          rw [hisz, hcl, hcs, ← Nat.add_mul]; exact Nat.mul_le_mul_right _ hroom
        have hr := run_append_fit (P := P) (w := w) (ty := type) hS hi htx hd b xs.length cap ys.length cur el hh xv css.flatten hlen (by rw [hisz]; exact hfc w (Kept.refl _ _)) hF.one hroom hfit
        rw [hisz] at hr hfit
        have hwr := Wrote.setRow w b (cur.toList.take (xs.length * ty.size) ++ css.flatten ++ cur.toList.drop (xs.length * ty.size + css.flatten.length)).toArray
        have hh' := setRow_heap w b cur (cur.toList.take (xs.length * ty.size) ++ css.flatten ++ cur.toList.drop (xs.length * ty.size + css.flatten.length)).toArray el (0, 0) hh
        have htl : (cur.toList.take (xs.length * ty.size)).length = xs.length * ty.size := by simp; omega
        have hc : ∀ o, o < xs.length * ty.size → (w.setRow b (cur.toList.take (xs.length * ty.size) ++ css.flatten ++ cur.toList.drop (xs.length * ty.size + css.flatten.length)).toArray).cell? ⟨b, o, none⟩ = w.cell? ⟨b, o, none⟩ := by
          intro o ho'
          rw [cell_at hh', cell_at hh, List.append_assoc, List.getElem?_append_left (by rw [htl]; exact ho'), List.getElem?_take, if_pos ho']
        have hle : xs.length * ty.size ≤ (xs.length + ys.length) * ty.size := Nat.mul_le_mul_right _ (by omega)
        have R' := R.more ho hle hwr hc
        have hk := (Goes.more (n := (xs.length + ys.length) * ty.size) R.gh ho hwr hc).kept
        refine ⟨_, _, _, (Goes.more (n := (xs.length + ys.length) * ty.size) R.gh ho hwr hc).unt (fun _ e => by cases e) (fun key b' _ hb => hwr.other b' (by rintro rfl; exact (R.gh.ow own _ _ ho).2.2.2 key hb)), hr, R', some ⟨b, 0, none⟩, cap, by rw [List.length_append], by rw [List.length_append]; exact hroom, hcap, ?_, .inr (.inr ⟨b, _, el, rfl, by simp [Gh.more], hh', ?_⟩)⟩
        · have hxr : Rows G.S w ty b 0 xs := by
            intro j x hxj
            obtain ⟨b', o', c, e', h1, h2⟩ := hrow.cellAt hxj
            cases e'
            exact ⟨c, h1, h2⟩
          refine Rows.row ((hxr.kept hk).append (Flat.rows (hF.kept hk) fun j v hv => ?_))
          have hj : j < ys.length * ty.size := by rw [← hcl]; exact (List.getElem?_eq_some_iff.1 hv).1
          refine ⟨.inr ⟨rfl, by rw [Nat.add_mul]; omega⟩, ?_⟩
          rw [cell_at hh', List.append_assoc, List.getElem?_append_right (by rw [htl]; omega), htl, List.getElem?_append_left (by rw [hcl]; omega)]
          rw [show 0 + xs.length * ty.size + j - xs.length * ty.size = j by omega]
          exact hv
        · simp only [List.size_toArray, List.length_append, htl, List.length_drop, Array.length_toList]
          rw [hcs] at hfit ⊢
          omega
    · exact hnew (by omega)

theorem run_convert_mark {w : World} {t e : TypeId} (ht : P.underlying t = some (.slice e)) (he : P.underlying e = some (.int .u8)) {b : Nat} {cur : Array Value} {el : TypeId} (hh : w.heap[b]? = some (.cells cur el (0, 0))) {n cap : Nat} :
    (convert t t (.slice (some ⟨b, 0, none⟩) n cap)).run P w = .ok (.slice (some ⟨b, 0, none⟩) n cap) (w.freeze ⟨b, cur.size, none⟩ 1) ∧ Wrote w (w.freeze ⟨b, cur.size, none⟩ 1) b ∧
      ∀ o, (w.freeze ⟨b, cur.size, none⟩ 1).cell? ⟨b, o, none⟩ = w.cell? ⟨b, o, none⟩ := by
  have hsh : w.shape? b = some (el, cur.size) := by simp [World.shape?, hh]
  have e : w.freeze ⟨b, cur.size, none⟩ 1 = { w with heap := w.heap.modify b fun
      | .cells c elem (lo, hi) => .cells c elem (if lo == hi then (cur.size, cur.size + 1) else (min lo cur.size, max hi (cur.size + 1)))
      | o => o } := by
    unfold World.freeze
    rw [if_neg (by decide)]
    congr 2
  refine ⟨by simp [convert, run_underlying ht, run_underlying he, markStringish, hsh], ?_⟩
  rw [e]
  exact ⟨⟨rfl, rfl, rfl, by simp, fun k hk => by simp [Array.getElem?_modify, Ne.symm hk]⟩, fun o => by simp [World.cell?, Array.getElem?_modify, hh]⟩
theorem evA_sound (htt : TTok P tt) {F : Fra} {G : Gh} {A : AS} {a : Act} {cst : List (Array Value)} {w : World} (R : Rel F G A a.tmps cst w) (o : Oper) {kb : Nat} (hkb : ∀ d, F.mu0 (kb + d) = none) {chk : Bool} {A' : AS}
    (h : evA tt kb A o.dst o.op = some (chk, A')) (hc : chk = true) :
    ∃ u w' G', Unt G G' (fun k => stTouch A o.op k ∨ k = kb + o.dst.getD 0) w w' ∧ ((execOp a.eval o).run P w = .ok (.value u) w' ∨ ((execOp a.eval o).run P w = .ok .skip w' ∧ u = undef)) ∧ Rel F G' A' (a.put o.dst u).tmps cst w' := by
  obtain ⟨dst, op, type, pos, after, guard⟩ := o
  simp only at h ⊢
  cases op <;> simp only [evA, reduceCtorEq] at h
  case alloc t =>
    split at h
    · rename_i d
      cases hz : (szOf tt t).isSome && (tt.at t).zero.all Value.oneCell' with
      | false => rw [hz] at h; cases h
      | true =>
        rw [hz] at h
        simp only [cond_true, Option.some.injEq, Prod.mk.injEq] at h
        obtain ⟨_, rfl⟩ := h
        simp only [Bool.and_eq_true] at hz
        obtain ⟨n, hn⟩ := Option.isSome_iff_exists.1 hz.1
        obtain ⟨hT, _⟩ := szOf_sound htt hn
        obtain ⟨z, hzr, hzc, _⟩ := hT.zero w
        have hg := Grew.alloc w (.cells z.cells t)
        have hh : (w.alloc (.cells z.cells t)).heap[w.heap.size]? = some (.cells z.cells t (0, 0)) := heap_alloc_new w _
        have R' := R.newOb hg (kb + d) (hkb d) hh (cs := zeroCs tt (idCell (kb + d) 0) t) (by rw [hzc]; exact zeroCs_sound _ _ hz.2)
        refine ⟨.pointer (some ⟨w.heap.size, 0, none⟩), _, _, (Goes.newOb R.gh hg (kb + d)).unt (fun _ e => .inr (by cases e; rfl)) (fun key b _ hb => hg.mu R.gh hb), .inl ?_, R'.puts (v := .one (.ptr (kb + d) 0)) ⟨w.heap.size, by simp [Gh.newOb], rfl⟩ (some d)⟩
        simp [execOp, Instr.alloc, hzr, newVar, run_newRow]
    · cases h
  case box t x =>
    split at h
    · rename_i d
      cases hz : (opd A x).solid with
      | false => rw [hz] at h; cases h
      | true =>
        rw [hz] at h
        simp only [cond_true, Option.some.injEq, Prod.mk.injEq] at h
        obtain ⟨_, rfl⟩ := h
        have hg := Grew.alloc w (.cells (a.eval x).cells t)
        have hh : (w.alloc (.cells (a.eval x).cells t)).heap[w.heap.size]? = some (.cells (a.eval x).cells t (0, 0)) := heap_alloc_new w _
        have go := Goes.newOb R.gh hg (kb + d)
        have hv : Rv (G.newOb (kb + d) w.heap.size) (w.alloc (.cells (a.eval x).cells t)) ((opd A x).map (C.noKey (kb + d))) (a.eval x) := Rv.map (fun c v h => h.noKey go) (R.opd x)
        have R' := R.newOb hg (kb + d) (hkb d) hh (hv.cells (by rw [V.solid_map]; exact hz))
        refine ⟨.pointer (some ⟨w.heap.size, 0, none⟩), _, _, (Goes.newOb R.gh hg (kb + d)).unt (fun _ e => .inr (by cases e; rfl)) (fun key b _ hb => hg.mu R.gh hb), .inl ?_, R'.puts (v := .one (.ptr (kb + d) 0)) ⟨w.heap.size, by simp [Gh.newOb], rfl⟩ (some d)⟩
        simp [execOp, Instr.box, newVar, run_newRow]
    · cases h
  case range t x =>
    have hx := R.opd x
    split at h
    · rename_i d s hd e1
      rw [e1] at hx
      simp only [Option.some.injEq, Prod.mk.injEq] at h
      obtain ⟨_, rfl⟩ := h
      obtain ⟨eu, hbr, hlen⟩ := hx
      have hS := (htt t (by rw [hd]; simp)).str hd
      have hg := Grew.alloc w (.stringIter (mkStr s) 0)
      have hh : (w.alloc (.stringIter (mkStr s) 0)).heap[w.heap.size]? = some (.stringIter (mkStr s) 0) := heap_alloc_new w _
      have R' := R.newObj hg (kb + d) (hkb d) hh (cs := [.itr (s, 0)]) (.inr ⟨s, 0, rfl, rfl, hbr, hlen⟩)
      refine ⟨.pointer (some ⟨w.heap.size, 0, none⟩), _, _, (Goes.newOb R.gh hg (kb + d)).unt (fun _ e => .inr (by cases e; rfl)) (fun key b _ hb => hg.mu R.gh hb), .inl ?_, R'.puts (v := .one (.ptr (kb + d) 0)) ⟨w.heap.size, by simp [Gh.newOb], rfl⟩ (some d)⟩
      simp [execOp, eu, run_range_string w t (mkStr s) hS, World.iter]
    · cases h
  case store t x y =>
    have hx := R.opd x
    split at h
    · rename_i k o e1
      rw [e1] at hx
      split at h
      · rename_i cs hcs
        cases hz0 : !cs.any C.isItr && ((opd A y).solid && szIs tt t (opd A y).cells.length) with
        | false => rw [hz0] at h; cases h
        | true =>
          rw [hz0] at h
          simp only [cond_true, Option.some.injEq, Prod.mk.injEq] at h
          obtain ⟨rfl, rfl⟩ := h
          simp only [Bool.and_eq_true, Bool.not_eq_true'] at hz0
          obtain ⟨hni, hz⟩ := hz0
          have hc := of_decide_eq_true hc
          obtain ⟨hT, hsz, hpos⟩ := szIs_sound htt hz.2
          obtain ⟨b, hb, eu⟩ := hx
          obtain ⟨b', cur, el, hb', hh, hr⟩ := R.ob.cells hcs hni
          rw [hb] at hb'; cases hb'
          have hy := (R.opd y).cells hz.1
          have hyl := hy.length
          have hrl := hr.length
          have hst := run_storeCells_at P b o el (a.eval y).cells.toList 0 cur w hh (by simp at hrl ⊢; simp at hyl; omega) (by
            intro u hu
            obtain ⟨i, hi⟩ := List.getElem?_of_mem hu
            have hlt : i < (opd A y).cells.length := by rw [hyl]; exact (List.getElem?_eq_some_iff.1 hi).1
            obtain ⟨u', hu', hru⟩ := hy.get (List.getElem?_eq_getElem hlt)
            rw [hi] at hu'; cases hu'
            exact hru.cell)
          simp only [Nat.add_zero] at hst
          have hrt := (retype_sound tt (idCell k o) t (R.opd y)).cells (by rw [(retype_cells _ _ _).2]; exact hz.1)
          have hsp : All2 (Rc G w) (splice cs o (retype tt (idCell k o) t (opd A y)).cells) (splice cur.toList o (a.eval y).cells.toList) := hr.splice o hrt
          have hwr := Wrote.setRow w b (cur.toList.take o ++ (a.eval y).cells.toList ++ cur.toList.drop (o + (a.eval y).cells.toList.length)).toArray
          have hh' := setRow_heap w b cur (cur.toList.take o ++ (a.eval y).cells.toList ++ cur.toList.drop (o + (a.eval y).cells.toList.length)).toArray el (0, 0) hh
          have R' := R.store hb hwr hh' (cs := splice cs o (retype tt (idCell k o) t (opd A y)).cells) hsp
          refine ⟨undef, _, _, (Goes.store R.gh hb hwr).unt (fun _ e => by cases e) (fun key b1 h hb1 => hwr.other b1 (by rintro rfl; exact h (.inl (by simp only [stTouch, e1]; exact R.gh.muI _ _ _ hb1 hb)))), .inr ⟨?_, rfl⟩, R'.puts (v := .tup []) ⟨#[], rfl, trivial⟩ dst⟩
          have hcs : (a.eval y).cells.size = (tt.at t).size := by rw [hsz]; simp at hyl; omega
          simp [execOp, Instr.storeAt, eu, Instr.sureAddr, storeVar, hT.size, hcs, hst]
      · cases h
    · cases h
  case buildSlice t n parts =>
    split at h
    · rename_i d e hd
      split at h
      · rename_i ty hty
        cases hz : szIs tt e ty.size && (parts.toList.length == n) && decide (n * ty.size ≤ 65536) with
        | false => rw [hz] at h; cases h
        | true =>
          rw [hz] at h
          simp only [Bool.and_eq_true, beq_iff_eq, decide_eq_true_eq] at hz
          obtain ⟨⟨hz1, hn⟩, hle⟩ := hz
          simp only [cond_true] at h
          split at h
          · rename_i xs hxs
            simp only [Option.some.injEq, Prod.mk.injEq] at h
            obtain ⟨_, rfl⟩ := h
            obtain ⟨hT, hsz, hpos⟩ := szIs_sound htt hz1
            have hS := (htt t (by rw [hd]; simp)).sl hd
            obtain ⟨z, hzr, hzc, _⟩ := hT.zero w
            obtain ⟨hF, hI⟩ := castAll_sound R ty parts.toList 0 xs hxs
            have hxl : xs.length = n := by rw [← hn, ← hF.len, List.length_map]
            obtain ⟨i, z', hi, hi1, _, hz', hzc'⟩ := hT.bytesOf
            have hcur0 : ∀ zz : Array Value, ((Array.range (n * ty.size)).map (zz[· % zz.size]!)).size = n * ty.size := by intro zz; simp
            have hfill : ∀ zz : Array Value, ∃ cur', Instr.fill (fun i => some (i * ty.size, ty.size)) ((Array.range (n * ty.size)).map (zz[· % zz.size]!)) (parts.toList.map fun p => (p.1, a.eval p.2)) = some cur' ∧
                cur'.toList = (parts.toList.map fun p => (a.eval p.2).cells.toList).flatten := by
              intro zz
              obtain ⟨cur', h1, h2⟩ := fill_seq ty.size (parts.toList.map fun p => (p.1, a.eval p.2)) 0 ((Array.range (n * ty.size)).map (zz[· % zz.size]!)) (fun j p hp => by
                rw [List.getElem?_map] at hp
                obtain ⟨q, hq, rfl⟩ := Option.map_eq_some_iff.1 hp
                refine ⟨hI j q hq, ?_⟩
                have := hF.size ((a.eval q.2).cells.toList) (List.mem_map.2 ⟨q, List.mem_of_getElem? hq, rfl⟩)
                simpa using this) (by rw [hcur0, List.length_map, hn, Nat.zero_add]; exact Nat.le_refl _)
              refine ⟨cur', h1, ?_⟩
              rw [h2, List.map_map, List.length_map, hn, Nat.zero_mul, List.take_zero, List.nil_append, Nat.zero_add, List.drop_of_length_le (by simp)]
              simp [Function.comp_def]
            obtain ⟨cur, hfl, hcl⟩ := hfill (if n * ty.size = 0 then #[] else z.cells)
            have hcs : cur.size = n * ty.size := by
              have := congrArg List.length hcl
              rw [flat_length _ hF.size, List.length_map, hn] at this
              simpa using this
            have hg := Grew.alloc w (.cells cur e)
            have hh : (w.alloc (.cells cur e)).heap[w.heap.size]? = some (.cells cur e (0, 0)) := heap_alloc_new w _
            have R' := R.fresh hg (n * ty.size) (idTmp kb d)
            have hk := (Goes.fresh R.gh hg (n * ty.size) (idTmp kb d)).kept
            have hp : (parts.map fun (i, x) => (i, a.eval x)).toList = parts.toList.map fun p => (p.1, a.eval p.2) := by simp
            refine ⟨.slice (some ⟨w.heap.size, 0, none⟩) n n, _, _, (Goes.fresh R.gh hg (n * ty.size) (idTmp kb d)).unt (fun _ e => by cases e) (fun key b _ hb => hg.mu R.gh hb), .inl ?_, R'.puts ?_ (some d)⟩
            · have hle' : ¬ (2 ^ 24 < n * ty.size) := by omega
              by_cases h0 : n * ty.size = 0
              · simp only [h0, if_true] at hfl
                simp only [execOp, Instr.buildSlice, Sem.run_bind, run_underlying hS, Result.andThen_ok, hT.size, hsz]
                rw [if_neg hle']
                simp only [Sem.run_bind, Sem.run_pure, Result.andThen_ok, h0, if_true]
                rw [hp, hfl]
                simp [run_newRow]
              · simp only [h0, if_false] at hfl
                simp only [execOp, Instr.buildSlice, Sem.run_bind, run_underlying hS, Result.andThen_ok, hT.size, hsz]
                rw [if_neg hle']
                simp only [Sem.run_bind, Sem.run_pure, Result.andThen_ok, h0, if_false, hzr]
                rw [hp, hfl]
                simp [run_newRow]
            · refine ⟨_, n, by rw [hxl], by rw [hxl]; exact Nat.le_refl _, ?_, ?_, .inr (.inr ⟨w.heap.size, cur, e, rfl, by simp [Gh.fresh, hxl], hh, hcs⟩)⟩
              · have : n ≤ n * ty.size := Nat.le_mul_of_pos_right _ hpos
                simp only [maxLen]; omega
              · refine Rows.row (Flat.rows (hF.kept hk) fun j v hv => ?_)
                rw [Nat.zero_add]
                have hj : j < n * ty.size := by rw [← hcs, ← Array.length_toList, hcl]; exact (List.getElem?_eq_some_iff.1 hv).1
                exact ⟨.inr ⟨rfl, hj⟩, by rw [cell_at hh, hcl]; exact hv⟩
          · cases h
      · cases h
    · cases h
  case convert st dt x =>
    have hx := R.opd x
    split at h
    · rename_i d e s hd e1
      rw [e1] at hx
      split at h
      · rename_i hde hst
        simp only [Option.some.injEq, Prod.mk.injEq] at h
        obtain ⟨_, rfl⟩ := h
        obtain ⟨eu, hb, hl⟩ := hx
        have e1 := (htt st (by rw [hst]; simp)).str hst
        have e2 := (htt dt (by rw [hd]; simp)).sl hd
        have e3 := (htt e (by rw [hde]; simp)).int hde
        have hr := Lib.run_convert_string_bytes (P := P) w st dt e (mkStr s) e1 e2 e3
        have hnew := Lib.bytesWorld_at_new w e (mkStr s)
        have hg : Grew w (Lib.bytesWorld w e (mkStr s)) := by
          refine ⟨rfl, rfl, rfl, Lib.bytesWorld_size w e (mkStr s), fun k hk => Lib.bytesWorld_at_old w e (mkStr s) k hk⟩
        have R' := R.fresh hg s.length 0
        rw [noOwn_zero, AS.map_id] at R'
        rw [mkStr_size] at hr
        refine ⟨.slice (some ⟨w.heap.size, 0, none⟩) s.length (grownCap w s.length 0 e), _, _, (Goes.fresh R.gh hg s.length 0).unt (fun _ e => by cases e) (fun key b _ hb => hg.mu R.gh hb), .inl (by simp [execOp, eu, hr]),
          R'.puts (v := .one (.lst e (.int .u8) (s : List (Ty.den (.int .u8))) 0)) ⟨some ⟨w.heap.size, 0, none⟩, grownCap w s.length 0 e, rfl, ?_, ?_, ?_, .inl rfl⟩ (some d)⟩
        · exact grownCap_ge w s.length 0 e
        · exact grownCap_le_maxLen w s.length 0 e hl
        · refine Rows.row fun i x hx => ?_
          have hi : i < s.length := (List.getElem?_eq_some_iff.1 hx).1
          have hm := hb x (List.mem_of_getElem? hx)
          refine ⟨[.int .u8 x], ⟨rfl, ?_⟩, fun j v hv => ?_⟩
          · simp [inR, IntKind.min, IntKind.max, IntKind.signed, IntKind.bits]; omega
          · cases j with
            | succ j => simp at hv
            | zero =>
              simp only [List.getElem?_cons_zero, Option.some.injEq] at hv
              subst hv
              have hc := Lib.bytesWorld_cell w e (mkStr s) i (by rw [mkStr_size]; exact hi)
              refine ⟨.inr ⟨rfl, by simpa [Ty.size] using hi⟩, ?_⟩
              have ex : (((mkStr s).data.toList.getD i 0).toNat : Int) = x := by
                have : (mkStr s).data.toList = s.map fun c => UInt8.ofNat c.toNat := rfl
                rw [this, List.getD_eq_getElem?_getD, List.getElem?_map, hx]
                simp only [Option.map_some, Option.getD_some]
                rw [UInt8.toNat_ofNat', Nat.mod_eq_of_lt (by omega)]
                omega
              rw [ex] at hc
              simpa [Ty.size] using hc
      · cases h
    · rename_i d e e' ty xs own hd e1
      rw [e1] at hx
      split at h
      · rename_i hde
        cases hz : Nat.beq st dt && (Nat.beq e e' && !(own == 0)) with
        | false => rw [hz] at h; cases h
        | true =>
          rw [hz] at h
          simp only [cond_true, Option.some.injEq, Prod.mk.injEq] at h
          obtain ⟨hchk, rfl⟩ := h
          simp only [Bool.and_eq_true, Bool.not_eq_true', beq_eq_false_iff_ne] at hz
          obtain ⟨hz1, hz2, hz3⟩ := hz
          have hz1 := Nat.eq_of_beq_eq_true hz1
          have hz2 := Nat.eq_of_beq_eq_true hz2
          subst hz1 hz2
          have hne : xs ≠ [] := by
            rintro rfl
            rw [hc] at hchk
            cases hchk
          obtain ⟨A', cap, eu, hlen, hcap, hrow, hO⟩ := hx
          have hS := (htt st (by rw [hd]; simp)).sl hd
          have hI := (htt e (by rw [hde]; simp)).int hde
          rcases hO with hO | ⟨rfl, _⟩ | ⟨b, cur, el, rfl, ho, hh, hcs⟩
          · exact absurd hO hz3
          · obtain ⟨_, _, e2, _⟩ := hrow hne
            cases e2
          · obtain ⟨hr, hwr, hce⟩ := run_convert_mark (P := P) (w := w) hS hI hh (n := xs.length) (cap := cap)
            have R' := R.more ho (Nat.le_refl _) hwr fun o _ => hce o
            have hk := (Goes.more (n := xs.length * ty.size) R.gh ho hwr fun o _ => hce o).kept
            refine ⟨.slice (some ⟨b, 0, none⟩) xs.length cap, _, _, (Goes.more (n := xs.length * ty.size) R.gh ho hwr fun o _ => hce o).unt (fun _ e => by cases e) (fun key b1 _ hb1 => hwr.other b1 (by rintro rfl; exact (R.gh.ow own _ _ ho).2.2.2 key hb1)), .inl (by simp [execOp, eu, hr]), R'.puts (v := .one (.lst e ty xs 0)) ⟨_, cap, rfl, hlen, hcap, hrow.kept hk, .inl rfl⟩ (some d)⟩
      · cases h
    · cases h
  case call c =>
    obtain ⟨callee, args, argTypes⟩ := c
    simp only at h
    split at h
    · split at h
      · rename_i d s x t t' hargs hts
        have ea : args = #[s, x] := by apply Array.ext'; simpa using hargs
        have et : argTypes = #[t, t'] := by apply Array.ext'; simpa using hts
        subst ea; subst et
        have hs := R.opd s
        split at h
        · rename_i e e1 ty xs own hd es
          rw [es] at hs
          cases hz : (e == e1) && !(own == 0) && szIs tt e ty.size && decide ((tt.at e).bytes ≤ 4096) && !((tt.at e).bytes == 0) && ((tt.at e).zero.length == ty.size) with
          | false => rw [hz] at h; cases h
          | true =>
            rw [hz] at h
            simp only [Bool.and_eq_true, beq_iff_eq, decide_eq_true_eq, Bool.not_eq_true', beq_eq_false_iff_ne] at hz
            obtain ⟨⟨⟨⟨⟨rfl, h2⟩, h3⟩, h4⟩, h5⟩, h6⟩ := hz
            simp only [cond_true] at h
            split at h
            · rename_i ys hys
              simp only [Option.some.injEq, Prod.mk.injEq] at h
              obtain ⟨rfl, rfl⟩ := h
              obtain ⟨hT, hsz, hpos⟩ := szIs_sound htt h3
              have hS := (htt t (by rw [hd]; simp)).sl hd
              obtain ⟨u, w', G', hun, hr, R', hu⟩ := append_sound (type := type) htt R hS hT hsz hpos h4 h5 h6 h2 hs hys (R.opd x) (of_decide_eq_true hc)
              refine ⟨u, w', G', hun.weaken (fun _ h => h.elim), .inl ?_, R'.puts (v := .one (.lst e ty (xs ++ ys) own)) hu (some d)⟩
              simp [execOp, resolve, invoke, builtin, hr]
            · cases h
        · cases h
      · cases h
    · cases h
end

end Go.Proofs.Ytnppjkijhcampaa.Sym
