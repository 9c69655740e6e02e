/- Soundness of the operations that only compute: the whole of evP, joined. -/
import Derived.Test.YtnppjkijhcampaaSymF

namespace Go.Proofs.Ytnppjkijhcampaa.Sym
open Go
set_option linter.unusedSimpArgs false
set_option linter.unusedVariables false

section
variable {P : Program} {tt : TT} {G : Gh} {w : World}

theorem run_mapM_list {α β : Type} (f : α → Sem β) (g : α → β) : ∀ l : List α, (∀ x ∈ l, (f x).run P w = .ok (g x) w) → (l.mapM f).run P w = .ok (l.map g) w
  | [], _ => by simp
  | x :: l, h => by
    have h1 := h x (by simp)
    have h2 := run_mapM_list f g l fun y hy => h y (by simp [hy])
    simp [List.mapM_cons, h1, h2]
theorem run_mapM_array {α β : Type} (f : α → Sem β) (g : α → β) (l : Array α) (h : ∀ x ∈ l.toList, (f x).run P w = .ok (g x) w) : (l.mapM f).run P w = .ok (l.map g) w := by
  have h1 := run_mapM_list (P := P) (w := w) f g l.toList h
  rw [Array.mapM_eq_mapM_toList]
  simp only [map_eq_pure_bind, Sem.run_bind, h1, Result.andThen_ok, Sem.run_pure]
  congr 1
  apply Array.ext'
  simp

theorem TIok.zero {t : Nat} {ti : TI} (h : TIok P t ti) (w : World) : ∃ z, (zeroValue t).run P w = .ok z w ∧ z.cells.toList = ti.zero ∧ vAgg z = isSt ti.d := by
  obtain ⟨i, z, hi, _, _, hz, h1, h2⟩ := h.inf
  exact ⟨z, by simp [zeroValue, run_typeInfo hi, hz], h1, h2⟩
theorem TIok.zeroA {t : Nat} {ti : TI} (h : TIok P t ti) : ∃ z, (∀ w, (zeroValue t).run P w = .ok z w) ∧ z.cells.toList = ti.zero ∧ vAgg z = isSt ti.d := by
  obtain ⟨i, z, hi, _, _, hz, h1, h2⟩ := h.inf
  exact ⟨z, fun w => by simp [zeroValue, run_typeInfo hi, hz], h1, h2⟩
theorem TIok.bytesOf {t : Nat} {ti : TI} (h : TIok P t ti) : ∃ i z, P.info? t = some i ∧ i.size = ti.size ∧ i.bytes = ti.bytes ∧ i.zero = some z ∧ z.cells.toList = ti.zero := by
  obtain ⟨i, z, hi, h1, h2, hz, h3, _⟩ := h.inf
  exact ⟨i, z, hi, h1, h2, hz, h3⟩

theorem zeroCs_sound (id t : Nat) (h : (tt.at t).zero.all Value.oneCell' = true) : All2 (Rc G w) (zeroCs tt id t) (tt.at t).zero := by
  unfold zeroCs
  split
  · exact retypeCs_sound _ _ _ _ (cOfVals_sound _ h)
  · exact cOfVals_sound _ h

theorem Rv.cells {v : V} {u : Value} (h : Rv G w v u) (hs : v.solid = true) : All2 (Rc G w) v.cells u.cells.toList := by
  cases v with
  | one c =>
    rw [cells_one h]
    exact ⟨h, trivial⟩
  | agg cs => obtain ⟨vs, rfl, hv⟩ := h; exact hv
  | tup ps => cases hs
  | any => cases hs

theorem buildCs_sound (htt : TTok P tt) {A : AS} {a : Act} (hop : ∀ x, Rv G w (opd A x) (a.eval x)) {fs : List (Nat × Nat)} (place : Nat → Option (Nat × Nat))
    (hp : ∀ i off t, fs[i]? = some (off, t) → place i = some (off, (tt.at t).size)) :
    ∀ (ps : List (Nat × Operand)) (cs cs' : List C) (vs : Array Value), buildCs tt A fs ps cs = some cs' → All2 (Rc G w) cs vs.toList →
      ∃ vs', Instr.fill place vs (ps.map fun p => (p.1, a.eval p.2)) = some vs' ∧ All2 (Rc G w) cs' vs'.toList
  | [], cs, cs', vs, h, hr => by
    simp only [buildCs, Option.some.injEq] at h
    subst h
    exact ⟨vs, by simp [Instr.fill], hr⟩
  | (i, x) :: ps, cs, cs', vs, h, hr => by
    simp only [buildCs] at h
    split at h
    · cases h
    · rename_i off t hf
      cases hb : (opd A x).solid && (szIs tt t (opd A x).cells.length && decide (off + (opd A x).cells.length ≤ cs.length)) with
      | false => rw [hb] at h; cases h
      | true =>
        rw [hb] at h
        simp only [Bool.and_eq_true, decide_eq_true_eq] at hb
        obtain ⟨hs, hz, hl⟩ := hb
        obtain ⟨hT, hsz, hpos⟩ := szIs_sound htt hz
        have hc := (hop x).cells hs
        have hlen := hc.length
        have hvl := hr.length
        have hset := foldl_set (a.eval x).cells.toList vs off 0 (by rw [← hlen]; simp at hvl ⊢; omega)
        obtain ⟨vs', h1, h2⟩ := buildCs_sound htt hop place hp ps _ cs' ((a.eval x).cells.zipIdx.foldl (fun cs (c, j) => cs.setIfInBounds (off + j) c) vs) h (by
          rw [← Array.foldl_toList, Array.toList_zipIdx]
          simp only [Nat.add_zero] at hset
          rw [hset]
          exact All2.splice off hr hc)
        refine ⟨vs', ?_, h2⟩
        have hn : (a.eval x).cells.size = (tt.at t).size := by rw [hsz]; simp at hlen; omega
        have hb2 : ¬ (vs.size < off + (tt.at t).size) := by simp at hvl; omega
        simp only [List.map_cons, Instr.fill, hp i off t hf, hn, ne_eq, not_true, decide_false, Bool.false_or, decide_eq_true_eq, gt_iff_lt, hb2, if_false]
        exact h1

/-- The objects that the state knows of. -/
def ObjOk (G : Gh) (w : World) (cs : List C) (o : Obj) : Prop :=
  (∃ cur el, o = .cells cur el (0, 0) ∧ All2 (Rc G w) cs cur.toList) ∨ ∃ (s : List Int) (n : Nat), cs = [.itr (s, n)] ∧ o = .stringIter (mkStr s) n ∧ byteR s ∧ s.length ≤ maxLen
def ObOk (G : Gh) (w : World) (A : AS) : Prop :=
  ∀ (key : Nat) (cs : List C), A.ob[key]? = some (some cs) → ∃ b o, G.mu key = some b ∧ w.heap[b]? = some o ∧ ObjOk G w cs o
theorem ObjOk.cells {cs : List C} {o : Obj} (h : ObjOk G w cs o) (hn : cs.any C.isItr = false) : ∃ cur el, o = .cells cur el (0, 0) ∧ All2 (Rc G w) cs cur.toList := by
  rcases h with h | ⟨s, n, rfl, _⟩
  · exact h
  · simp [C.isItr] at hn
theorem ObOk.cells {A : AS} (h : ObOk G w A) {key : Nat} {cs : List C} (hk : A.ob[key]? = some (some cs)) (hn : cs.any C.isItr = false) : ∃ b cur el, G.mu key = some b ∧ w.heap[b]? = some (.cells cur el (0, 0)) ∧ All2 (Rc G w) cs cur.toList := by
  obtain ⟨b, o, h1, h2, h3⟩ := h key cs hk
  obtain ⟨cur, el, rfl, hr⟩ := h3.cells hn
  exact ⟨b, cur, el, h1, h2, hr⟩
theorem ObjOk.mono {G' : Gh} {w' : World} (hf : ∀ c v, Rc G w c v → Rc G' w' c v) {cs : List C} {o : Obj} (h : ObjOk G w cs o) : ObjOk G' w' cs o := by
  rcases h with ⟨cur, el, rfl, hr⟩ | ⟨s, n, rfl, h2, h3, h4⟩
  · exact .inl ⟨cur, el, rfl, hr.mono fun a _ v => hf a v⟩
  · exact .inr ⟨s, n, rfl, h2, h3, h4⟩
/-- A change that leaves iterators as they are. -/
theorem ObjOk.map {G' : Gh} {w' : World} {f : C → C} (hf : ∀ c v, Rc G w c v → Rc G' w' (f c) v) (hi : ∀ x, f (.itr x) = .itr x) {cs : List C} {o : Obj} (h : ObjOk G w cs o) : ObjOk G' w' (cs.map f) o := by
  rcases h with ⟨cur, el, rfl, hr⟩ | ⟨s, n, rfl, h2, h3, h4⟩
  · exact .inl ⟨cur, el, rfl, hr.map_left f fun a v => hf a v⟩
  · exact .inr ⟨s, n, by simp [hi], h2, h3, h4⟩

theorem cell_at {b : Nat} {cur : Array Value} {el : TypeId} {fr : Nat × Nat} (h : w.heap[b]? = some (.cells cur el fr)) (o : Nat) : w.cell? ⟨b, o, none⟩ = cur.toList[o]? := by
  simp [World.cell?, h]

theorem evP_all {H : Nat → Prop} (htt : TTok P tt) {A : AS} {a : Act} (hop : ∀ x, Rv G w (opd A x) (a.eval x)) (hob : ObOk G w A) (o : Oper) {id : Nat} {chk : Bool} {v : V}
    (h : evP tt id A o.type o.op = some (chk, v)) (hc : chk = true) (hH : ∀ t x k j, o.op = .load t x → opd A x = .one (.ptr k j) → H k) :
    ∃ u, (∀ w', (isRead o.op = true → Agr H G w w') → (execOp a.eval o).run P w' = .ok (.value u) w') ∧ Rv G w v u := by
  obtain ⟨dst, op, type, pos, after, guard⟩ := o
  simp only at h
  cases op <;> simp only [evP, reduceCtorEq] at h
  case move x =>
    simp only [Option.some.injEq, Prod.mk.injEq] at h
    obtain ⟨_, rfl⟩ := h
    exact ⟨_, fun w' hw' => by simp [execOp], retype_sound _ _ _ (hop x)⟩
  case assign x =>
    simp only [Option.some.injEq, Prod.mk.injEq] at h
    obtain ⟨_, rfl⟩ := h
    exact ⟨_, fun w' hw' => by simp [execOp], retype_sound _ _ _ (hop x)⟩
  case nilCheck x =>
    have hx := hop x
    split at h <;> rename_i e <;> first | (cases h; done) | (rw [e] at hx; simp only [Option.some.injEq, Prod.mk.injEq] at h; obtain ⟨_, rfl⟩ := h)
    · obtain ⟨b, hb, eu⟩ := hx
      exact ⟨_, fun w' hw' => by simp [execOp, eu], ⟨b, hb, rfl⟩⟩
    · obtain ⟨b, o, cs, eu, h1, h2⟩ := hx
      exact ⟨_, fun w' hw' => by simp [execOp, eu], ⟨b, o, cs, rfl, h1, h2⟩⟩
    · obtain ⟨vs, eu, h1⟩ := hx
      exact ⟨_, fun w' hw' => by simp [execOp, eu], ⟨vs, rfl, h1⟩⟩
  case binOp op xT x y yT =>
    have hx := hop x
    have hy := hop y
    unfold binOpV at h
    split at h
    · rename_i c d e1 e2
      rw [e1] at hx; rw [e2] at hy
      obtain ⟨⟨chk', e⟩, h1, h2⟩ := Option.map_eq_some_iff.1 h
      simp only [wrapC, Prod.mk.injEq] at h2
      obtain ⟨rfl, rfl⟩ := h2
      obtain ⟨r, hr, hrc⟩ := binOpC_sound htt h1 hc hx hy x y
      refine ⟨r, fun w' hw' => ?_, hrc⟩
      unfold execOp
      simp only [Sem.run_bind] at hr ⊢
      rw [hr]
      rfl
    · cases h
  case unOp op xT x =>
    have hx := hop x
    split at h
    · rename_i c e
      rw [e] at hx
      obtain ⟨d, h1, h2⟩ := Option.map_eq_some_iff.1 h
      simp only [Prod.mk.injEq] at h2
      obtain ⟨_, rfl⟩ := h2
      obtain ⟨r, hr, hrc⟩ := unOpC_sound (P := P) h1 hx
      exact ⟨r, fun w' hw' => by simp [execOp, hr], hrc⟩
    · cases h
  case convert src dt x =>
    have hx := hop x
    split at h
    · rename_i c e
      rw [e] at hx
      obtain ⟨d, h1, h2⟩ := Option.map_eq_some_iff.1 h
      simp only [Prod.mk.injEq] at h2
      obtain ⟨_, rfl⟩ := h2
      obtain ⟨r, hr, hrc⟩ := convC_sound htt h1 hx
      exact ⟨r, fun w' hw' => by simp [execOp, hr w' (hw' rfl).1], hrc⟩
    · cases h
  case fieldAddr s x f =>
    have hx := hop x
    split at h
    · rename_i off t sz k o hf e
      rw [e] at hx
      obtain ⟨F, fd, hF, hfd, h1, h2, hT, hsz⟩ := fieldOf_sound htt hf
      cases hz : sz == 0 with
      | true => rw [hz] at h; cases h
      | false =>
        rw [hz] at h
        simp only [cond_false, Option.some.injEq, Prod.mk.injEq] at h
        obtain ⟨_, rfl⟩ := h
        obtain ⟨b, hb, eu⟩ := hx
        have hz' : ¬ (tt.at t).size = 0 := by rw [← hsz]; simpa using hz
        refine ⟨.pointer (some ⟨b, o + off, none⟩), fun w' hw' => ?_, ⟨b, hb, rfl⟩⟩
        have hs := hT.size w'
        simp [execOp, Instr.fieldAt, run_underlying hF, hfd, eu, Instr.sureAddr, fieldPlace, hs, h2, hz', h1, Addr.add_plain]
    · rename_i off t sz t0 d hf e
      rw [e] at hx
      obtain ⟨F, fd, hF, hfd, h1, h2, hT, hsz⟩ := fieldOf_sound htt hf
      split at h
      · rename_i t' d' hs'
        cases hz : (sz == 0) || !(t'.size == sz) || !(t0.offs f == off) with
        | true => rw [hz] at h; cases h
        | false =>
          rw [hz] at h
          simp only [cond_false, Option.some.injEq, Prod.mk.injEq] at h
          obtain ⟨_, rfl⟩ := h
          simp only [Bool.or_eq_false_iff, Bool.not_eq_false', beq_iff_eq, beq_eq_false_iff_ne] at hz
          obtain ⟨⟨hz1, hz2⟩, hz3⟩ := hz
          obtain ⟨b, o, cs, eu, hr, ha⟩ := hx
          obtain ⟨cs', hr', ha'⟩ := Ty.sub_sound t0 d f t' d' o cs hs' hr ha
          rw [hz3] at ha'
          have hz' : ¬ (tt.at t).size = 0 := by rw [← hsz]; exact hz1
          refine ⟨.pointer (some ⟨b, o + off, none⟩), fun w' hw' => ?_, ⟨b, o + off, cs', rfl, hr', ha'⟩⟩
          have hs := hT.size w'
          simp [execOp, Instr.fieldAt, run_underlying hF, hfd, eu, Instr.sureAddr, fieldPlace, hs, h2, hz', h1, Addr.add_plain]
      · cases h
    · cases h
  case field s x f =>
    have hx := hop x
    split at h
    · rename_i off t sz cs hf e
      rw [e] at hx
      obtain ⟨F, fd, hF, hfd, h1, h2, hT, hsz⟩ := fieldOf_sound htt hf
      obtain ⟨v', hv', h3⟩ := Option.map_eq_some_iff.1 h
      simp only [Prod.mk.injEq] at h3
      obtain ⟨rfl, rfl⟩ := h3
      obtain ⟨vs, eu, hr⟩ := hx
      subst hsz
      obtain ⟨u, hu, hru⟩ := part_run (P := P) htt hv' hr (of_decide_eq_true hc)
      refine ⟨u, fun w' hw' => ?_, hru⟩
      simp [execOp, Instr.field, run_underlying hF, hfd, eu, asAgg, h1, h2, hu]
    · cases h
  case indexAddr t x i =>
    have hx := hop x
    split at h
    · rename_i e e' t' xs own k n hd e1 e2
      rw [e1] at hx
      obtain ⟨hi, _⟩ := intV_sound e2 (hop i)
      cases hz : (e == e') && szIs tt e t'.size with
      | false => rw [hz] at h; cases h
      | true =>
        rw [hz] at h
        simp only [cond_true, Option.some.injEq, Prod.mk.injEq] at h
        obtain ⟨rfl, rfl⟩ := h
        simp only [Bool.and_eq_true, decide_eq_true_eq, beq_iff_eq] at hz hc
        obtain ⟨hee, hz⟩ := hz
        obtain ⟨hT, hsz, hpos⟩ := szIs_sound htt hz
        have hS := (htt t (by rw [hd]; simp)).sl hd
        obtain ⟨A', cap, eu, hl, hcap, hrow, _⟩ := hx
        have hn : n.toNat < xs.length := by omega
        obtain ⟨b, o, c, rfl, h1, h2⟩ := hrow.cellAt (x := xs.getD n.toNat t'.zero) (i := n.toNat) (by simp [List.getD, hn])
        refine ⟨.pointer (some ⟨b, o + n.toNat * t'.size, none⟩), fun w' hw' => ?_, ⟨b, o + n.toNat * t'.size, c, rfl, h1, h2⟩⟩
        simp [execOp, Instr.indexAt, hi, asIntOf, run_underlying hS, eu, hc.1, hc.2, hT.size, hsz, Addr.add_plain]
    · cases h
  case index t x i =>
    have hx := hop x
    split at h
    · rename_i s k n hd e1 e2
      rw [e1] at hx
      obtain ⟨hi, _⟩ := intV_sound e2 (hop i)
      simp only [Option.some.injEq, Prod.mk.injEq] at h
      obtain ⟨rfl, rfl⟩ := h
      simp only [Bool.and_eq_true, decide_eq_true_eq] at hc
      have hS := (htt t (by rw [hd]; simp)).str hd
      obtain ⟨eu, hb, hl⟩ := hx
      have hn : n.toNat < s.length := by omega
      have hcr := hb (s.getD n.toNat 0) (by simp [List.getD, hn])
      refine ⟨.int .u8 (s.getD n.toNat 0), fun w' hw' => ?_, ⟨rfl, ?_⟩⟩
      · have hg : (mkStr s)[n.toNat]? = some (UInt8.ofNat (s.getD n.toNat 0).toNat) := by
          rw [ByteArray.getElem?_lt' _ _ (by rw [mkStr_size]; exact hn)]
          congr 1
          show (mkStr s).data[n.toNat]'_ = _
          simp [mkStr, List.getD, hn]
        have e3 : ((UInt8.ofNat (s.getD n.toNat 0).toNat).toNat : Int) = s.getD n.toNat 0 := by
          rw [UInt8.toNat_ofNat', Nat.mod_eq_of_lt (by omega)]; omega
        simp only [execOp, Instr.index, Sem.run_bind, hi, asIntOf, Sem.run_pure, Result.andThen_ok, run_underlying hS, eu, if_pos hc.1, hg, e3]
      · generalize s.getD n.toNat 0 = z at hcr
        simp [inR, IntKind.min, IntKind.max, IntKind.signed, IntKind.bits]; omega
    · cases h
  case slice t x lo hi mx =>
    have hx := hop x
    split at h
    · rename_i e t' xs own e1
      rw [e1] at hx
      split at h
      · rename_i e' l hh hd hl hh'
        cases hz : (e == e') && szIs tt e t'.size with
        | false => rw [hz] at h; cases h
        | true =>
          rw [hz] at h
          simp only [cond_true, Option.some.injEq, Prod.mk.injEq] at h
          obtain ⟨rfl, rfl⟩ := h
          simp only [Bool.and_eq_true, decide_eq_true_eq, beq_iff_eq] at hz hc
          obtain ⟨rfl, hz⟩ := hz
          obtain ⟨hT, hsz, hpos⟩ := szIs_sound htt hz
          have hS := (htt t (by rw [hd]; simp)).sl hd
          obtain ⟨A', cap, eu, hlen, hcap, hrow, _⟩ := hx
          have hb := fun w' => run_sliceBounds (P := P) (w := w) (w' := w') (A := A) (a := a) hop true hl hh' hc.1 hc.2.1 hc.2.2 hlen
          refine ⟨.slice (if cap = l.toNat then A' else A'.map (·.add (l.toNat * t'.size))) (hh.toNat - l.toNat) (cap - l.toNat), fun w' hw' => ?_, ?_⟩
          · simp [execOp, Instr.sliceAt, Instr.slice, run_underlying hS, eu, hb, hT.size, hsz]
          · have hcl : (cut xs l hh).length = hh.toNat - l.toNat := by simp [cut]; omega
            refine ⟨_, _, by rw [hcl], by rw [hcl]; omega, by omega, ?_, .inl rfl⟩
            exact hrow.cut l.toNat hh.toNat (by omega) (by omega) cap (by omega)
      · rename_i e' l hh m hd hl hh'
        split at h
        · rename_i hiO _ k n hm
          cases hz : (e == e') && szIs tt e t'.size with
          | false => rw [hz] at h; cases h
          | true =>
            rw [hz] at h
            simp only [cond_true, Option.some.injEq, Prod.mk.injEq] at h
            obtain ⟨rfl, rfl⟩ := h
            simp only [Bool.and_eq_true, decide_eq_true_eq, beq_iff_eq] at hz hc
            obtain ⟨rfl, hz⟩ := hz
            obtain ⟨hT, hsz, hpos⟩ := szIs_sound htt hz
            have hS := (htt t (by rw [hd]; simp)).sl hd
            obtain ⟨A', cap, eu, hlen, hcap, hrow, _⟩ := hx
            have hb := fun w' => run_sliceBounds3 (P := P) (w := w) (w' := w') (A := A) (a := a) hop hl hh' hm hc.1 hc.2.1 hc.2.2.1 hc.2.2.2 hlen
            refine ⟨.slice (if n.toNat = l.toNat then A' else A'.map (·.add (l.toNat * t'.size))) (hh.toNat - l.toNat) (n.toNat - l.toNat), fun w' hw' => ?_, ?_⟩
            · simp [execOp, Instr.sliceAt, Instr.slice, run_underlying hS, eu, hb, hT.size, hsz]
            · have hcl : (cut xs l hh).length = hh.toNat - l.toNat := by simp [cut]; omega
              refine ⟨_, _, by rw [hcl], by rw [hcl]; omega, by omega, ?_, .inl rfl⟩
              exact hrow.cut l.toNat hh.toNat (by omega) (by omega) n.toNat (by omega)
        · cases h
      · cases h
    · rename_i s e1
      rw [e1] at hx
      split at h
      · rename_i l hh hd hl hh'
        simp only [Option.some.injEq, Prod.mk.injEq] at h
        obtain ⟨rfl, rfl⟩ := h
        simp only [Bool.and_eq_true, decide_eq_true_eq] at hc
        have hS := (htt t (by rw [hd]; simp)).str hd
        obtain ⟨eu, hbr, hlen⟩ := hx
        have hb := fun w' => run_sliceBounds (P := P) (w := w) (w' := w') (A := A) (a := a) hop false hl hh' hc.1 hc.2.1 hc.2.2 (Nat.le_refl _)
        refine ⟨.string ((mkStr s).extract l.toNat hh.toNat), fun w' hw' => ?_, ?_, ?_, ?_⟩
        · rw [← mkStr_size] at hb
          simp [execOp, Instr.sliceAt, Instr.slice, run_underlying hS, eu, hb]
        · congr 1
          apply ByteArray.ext
          apply Array.ext'
          simp [mkStr, cut, List.extract_eq_take_drop, List.map_drop, List.map_take, List.drop_take]
        · intro c hc'
          exact hbr c (List.mem_of_mem_take (List.mem_of_mem_drop hc'))
        · simp only [cut, List.length_drop, List.length_take]; omega
      · cases h
    · cases h
  case load t x =>
    have hx := hop x
    split at h
    · rename_i k o e1
      rw [e1] at hx
      split at h
      · rename_i cs hcs
        cases hni : cs.any C.isItr with
        | true => rw [hni] at h; cases h
        | false =>
        rw [hni] at h
        simp only [cond_false] at h
        obtain ⟨v', hv', h3⟩ := Option.map_eq_some_iff.1 h
        simp only [Prod.mk.injEq] at h3
        obtain ⟨rfl, rfl⟩ := h3
        have hc := of_decide_eq_true hc
        obtain ⟨b, hb, eu⟩ := hx
        obtain ⟨b', cur, el, hb', hh, hr⟩ := hob.cells hcs hni
        rw [hb] at hb'; cases hb'
        have hr' : All2 (Rc G w) ((cs.drop o).take (tt.at t).size) ((cur.toList.drop o).take (tt.at t).size) := (hr.drop o).take _
        obtain ⟨u, hu, hru⟩ := run_loadVar_all (P := P) (b := b) (o := o) htt hv' hr' (by simp; omega)
        refine ⟨u, fun w' hw' => ?_, hru⟩
        have hu' := hu w' (fun j u hj => by
          rw [cell_at (((hw' rfl).2 k b (hH t x k o rfl e1) hb).trans hh)]
          rw [List.getElem?_take] at hj
          split at hj
          · rw [List.getElem?_drop] at hj; exact hj
          · cases hj)
        simp [execOp, Instr.loadAt, eu, Instr.sureAddr, hu']
      · cases h
    · rename_i t' d e1
      rw [e1] at hx
      cases hz : t'.size == (tt.at t).size with
      | false => rw [hz] at h; cases h
      | true =>
        rw [hz] at h
        obtain ⟨v', hv', h3⟩ := Option.map_eq_some_iff.1 h
        simp only [Prod.mk.injEq] at h3
        obtain ⟨_, rfl⟩ := h3
        obtain ⟨b, o, cs, eu, hr, ha⟩ := hx
        have h2 := toCs_sound t' d cs hr
        obtain ⟨u, hu, hru⟩ := run_loadVar_all (P := P) (b := b) (o := o) htt hv' h2 (by rw [h2.length, Rt.len _ _ _ hr]; simpa using hz)
        refine ⟨u, fun w' hw' => ?_, hru⟩
        have hu' := hu w' (fun j u hj => ((hw' rfl).1 _ _ (ha j u hj).1).trans (ha j u hj).2)
        simp [execOp, Instr.loadAt, eu, Instr.sureAddr, hu']
    · cases h
  case extract x i =>
    have hx := hop x
    split at h
    · rename_i ps e1
      rw [e1] at hx
      obtain ⟨us, eu, hr⟩ := hx
      split at h
      · rename_i cs hi
        simp only [Option.some.injEq, Prod.mk.injEq] at h
        obtain ⟨_, rfl⟩ := h
        obtain ⟨u, hu, hru⟩ := hr.get hi
        rcases hru with ⟨_, vs, e, h2⟩ | ⟨h1, _⟩
        · exact ⟨u, fun w' hw' => by simp [execOp, Instr.extract, eu, show us[i]? = some u by simpa using hu], ⟨vs, e, h2⟩⟩
        · cases h1
      · rename_i c hi
        simp only [Option.some.injEq, Prod.mk.injEq] at h
        obtain ⟨_, rfl⟩ := h
        obtain ⟨u, hu, hru⟩ := hr.get hi
        rcases hru with ⟨h1, _⟩ | ⟨_, c', e, h2⟩
        · cases h1
        · simp only [List.cons.injEq, and_true] at e
          subst e
          exact ⟨u, fun w' hw' => by simp [execOp, Instr.extract, eu, show us[i]? = some u by simpa using hu], h2⟩
      · cases h
    · cases h
  case build t parts =>
    split at h
    · rename_i fs hd
      cases hz : fs.all (fun f => (szOf tt f.2).isSome) && (tt.at t).zero.all Value.oneCell' with
      | false => rw [hz] at h; cases h
      | true =>
        rw [hz] at h
        obtain ⟨cs', hcs', h3⟩ := Option.map_eq_some_iff.1 h
        simp only [Prod.mk.injEq] at h3
        obtain ⟨_, rfl⟩ := h3
        simp only [Bool.and_eq_true] at hz
        have hT := htt t (by rw [hd]; simp)
        obtain ⟨F, hF, hfs⟩ := hT.st hd
        obtain ⟨z, hzr, hzc, _⟩ := hT.zeroA
        have hmap := fun w' => run_mapM_array (P := P) (w := w') (fun f : Field => do pure (f.offset, ← sizeOf f.type)) (fun f => (f.offset, (tt.at f.type).size)) F (by
          intro f hf
          have hin : (f.offset, f.type) ∈ fs := by rw [← hfs]; exact List.mem_map.2 ⟨f, hf, rfl⟩
          have := List.all_eq_true.1 hz.1 _ hin
          obtain ⟨n, hn⟩ := Option.isSome_iff_exists.1 this
          obtain ⟨hTf, _⟩ := szOf_sound htt hn
          simp [hTf.size])
        have hz0 : All2 (Rc G w) (zeroCs tt id t) z.cells.toList := by rw [hzc]; exact zeroCs_sound _ _ hz.2
        obtain ⟨vs', h1, h2⟩ := buildCs_sound htt hop ((F.map fun f => (f.offset, (tt.at f.type).size))[·]?) (fun i off t' hi => by
          rw [← hfs, List.getElem?_map] at hi
          obtain ⟨fd, hfd, he⟩ := Option.map_eq_some_iff.1 hi
          simp only [Prod.mk.injEq] at he
          obtain ⟨rfl, rfl⟩ := he
          simp [show F[i]? = some fd by simpa using hfd]) parts.toList (zeroCs tt id t) cs' z.cells hcs' hz0
        refine ⟨.agg vs', fun w' hw' => ?_, ⟨vs', rfl, h2⟩⟩
        have hp : (parts.map fun (i, x) => (i, a.eval x)).toList = parts.toList.map fun p => (p.1, a.eval p.2) := by simp
        simp only [execOp, Instr.build, Sem.run_bind, hzr, Result.andThen_ok, run_underlying hF, hmap, hp, h1, Sem.run_pure]
    · cases h
  case makeFunc fn first captured =>
    split at h
    · rename_i f hf
      split at h
      · rename_i cs hcs
        simp only [Option.some.injEq, Prod.mk.injEq] at h
        obtain ⟨_, rfl⟩ := h
        have hfe : first = #[] := by apply Array.ext'; simpa using hf
        subst hfe
        exact ⟨_, fun w' hw' => by simp [execOp, Instr.makeFunc]; rfl, ⟨_, rfl, by simpa using capsOf_sound hop hcs⟩⟩
      · cases h
    · cases h
  case makeInterface t x =>
    have hx := hop x
    split at h
    · cases h
    · cases h
    · rename_i ty hty hnifc hnoth
      cases hz : (isSt (tt.at t).d == (opd A x).isAgg) && (!ty.isProd || (opd A x).isAgg) with
      | false => rw [hz] at h; cases h
      | true =>
        rw [hz] at h
        have hag : ty.isProd = true → (opd A x).isAgg = true := by
          intro hp
          rw [hp] at hz
          simp only [Bool.and_eq_true, Bool.not_true, Bool.false_or] at hz
          exact hz.2
        obtain ⟨d, hd, h3⟩ := Option.map_eq_some_iff.1 h
        simp only [Prod.mk.injEq] at h3
        obtain ⟨_, rfl⟩ := h3
        have hT := htt t (fun e => hnoth e)
        obtain ⟨D, hu, ed⟩ := hT.und
        have hcast := castV_sound hd hx
        refine ⟨.iface t (a.eval x), fun w' hw' => ?_, ⟨a.eval x, rfl, ?_, fun hp => ?_⟩⟩
        · have : ∀ ms, D ≠ .interface ms := by rintro ms rfl; exact hnifc ed.symm
          simp only [execOp, Instr.makeInterface, Sem.run_bind, run_underlying hu, Result.andThen_ok]
          cases D <;> first | simp | exact absurd rfl (this _)
        · exact hcast
        · have := hag hp
          cases hv : opd A x <;> rw [hv] at this hx <;> simp [V.isAgg] at this
          obtain ⟨vs, e, _⟩ := hx
          exact ⟨vs, e⟩
    · cases h
  case typeAssert x xT a' ok =>
    cases ok with
    | false => simp only at h; cases h
    | true =>
      have hx := hop x
      simp only at h
      split at h
      · rename_i fs ty T t d hd hty e1
        have hTI := htt a' (by rw [hd]; simp)
        obtain ⟨D, hu, ed⟩ := hTI.und
        have hni : ∀ ms, D ≠ .interface ms := by rintro ms rfl; rw [hd] at ed; cases ed
        rw [e1] at hx
        obtain ⟨u, eu, hr, hag⟩ := hx
        cases hz : (T == a') && (decide (t = ty) && ty.isProd) with
        | true =>
          rw [hz] at h
          simp only [Bool.and_eq_true, beq_iff_eq, decide_eq_true_eq] at hz
          obtain ⟨rfl, rfl, hp⟩ := hz
          simp only [cond_true, Option.some.injEq, Prod.mk.injEq] at h
          obtain ⟨_, rfl⟩ := h
          obtain ⟨vs, rfl⟩ := hag hp
          refine ⟨.tuple #[.agg vs, .bool true], fun w' hw' => ?_, ⟨_, rfl, ?_⟩⟩
          · simp only [execOp, Instr.typeAssert, Sem.run_bind, run_underlying hu, Result.andThen_ok, eu]
            cases D <;> first | simp | exact absurd rfl (hni _)
          · refine ⟨.inl ⟨rfl, vs, rfl, ?_⟩, .inr ⟨rfl, _, rfl, rfl⟩, trivial⟩
            exact toCs_sound t d _ hr
        | false =>
          rw [hz] at h
          simp only [cond_false] at h
          cases hz2 : !(T == a') && (tt.at a').zero.all Value.oneCell' with
          | false => rw [hz2] at h; cases h
          | true =>
            rw [hz2] at h
            simp only [Bool.and_eq_true, Bool.not_eq_true', beq_eq_false_iff_ne, ne_eq] at hz2
            simp only [cond_true, Option.some.injEq, Prod.mk.injEq] at h
            obtain ⟨_, rfl⟩ := h
            obtain ⟨z, hz3, hzc, hza⟩ := hTI.zeroA
            rw [hd] at hza
            have : ∃ vs, z = .agg vs := by cases z <;> simp [vAgg, isSt] at hza; exact ⟨_, rfl⟩
            obtain ⟨vs, rfl⟩ := this
            refine ⟨.tuple #[.agg vs, .bool false], fun w' hw' => ?_, ⟨_, rfl, ?_⟩⟩
            · simp only [execOp, Instr.typeAssert, Sem.run_bind, run_underlying hu, Result.andThen_ok, eu]
              cases D <;> first | simp [hz2.1, hz3] | exact absurd rfl (hni _)
            · refine ⟨.inl ⟨rfl, vs, rfl, ?_⟩, .inr ⟨rfl, _, rfl, rfl⟩, trivial⟩
              have := zeroCs_sound (G := G) (w := w) id a' hz2.2
              rw [← hzc] at this
              exact this
      · rename_i fs ty hd hty e1
        have hTI := htt a' (by rw [hd]; simp)
        obtain ⟨D, hu, ed⟩ := hTI.und
        have hni : ∀ ms, D ≠ .interface ms := by rintro ms rfl; rw [hd] at ed; cases ed
        rw [e1] at hx
        have eu : a.eval x = .nilIface := hx
        cases hz2 : (tt.at a').zero.all Value.oneCell' with
        | false => rw [hz2] at h; cases h
        | true =>
          rw [hz2] at h
          simp only [cond_true, Option.some.injEq, Prod.mk.injEq] at h
          obtain ⟨_, rfl⟩ := h
          obtain ⟨z, hz3, hzc, hza⟩ := hTI.zeroA
          rw [hd] at hza
          have : ∃ vs, z = .agg vs := by cases z <;> simp [vAgg, isSt] at hza; exact ⟨_, rfl⟩
          obtain ⟨vs, rfl⟩ := this
          refine ⟨.tuple #[.agg vs, .bool false], fun w' hw' => ?_, ⟨_, rfl, ?_⟩⟩
          · simp only [execOp, Instr.typeAssert, Sem.run_bind, run_underlying hu, Result.andThen_ok, eu]
            cases D <;> first | simp [hz3] | exact absurd rfl (hni _)
          · refine ⟨.inl ⟨rfl, vs, rfl, ?_⟩, .inr ⟨rfl, _, rfl, rfl⟩, trivial⟩
            have := zeroCs_sound (G := G) (w := w) id a' hz2
            rw [← hzc] at this
            exact this
      · cases h
  case call c =>
    obtain ⟨callee, args, argTypes⟩ := c
    simp only at h
    split at h
    · split at h
      · rename_i x t ts hargs hts
        have hx := hop x
        have ea : args = #[x] := by apply Array.ext'; simpa using hargs
        have et : argTypes[0]? = some t := by
          have := congrArg (·[0]?) hts
          simpa using this
        subst ea
        split at h <;> rename_i hd e1 <;> first | (cases h; done) | (rw [e1] at hx; simp only [Option.some.injEq, Prod.mk.injEq] at h; obtain ⟨_, rfl⟩ := h)
        · have hS := (htt t (by rw [hd]; simp)).str hd
          obtain ⟨eu, _, hl⟩ := hx
          refine ⟨_, fun w' hw' => by simp [execOp, resolve, invoke, builtin, Builtin.len_, et, eu, run_underlying hS, goInt, mkStr_size], rfl, ?_⟩
          simp only [inR, IntKind.min, IntKind.max, IntKind.signed, IntKind.bits, maxLen] at hl ⊢
          simp; omega
        · have hS := (htt t (by rw [hd]; simp)).sl hd
          obtain ⟨A', cap, eu, h1, h2, _⟩ := hx
          refine ⟨_, fun w' hw' => by simp [execOp, resolve, invoke, builtin, Builtin.len_, et, eu, run_underlying hS, goInt], rfl, ?_⟩
          simp only [inR, IntKind.min, IntKind.max, IntKind.signed, IntKind.bits, maxLen] at h2 ⊢
          simp; omega
        · have hS := (htt t (by rw [hd]; simp)).sl hd
          have eu : a.eval x = .slice none 0 0 := hx
          refine ⟨_, fun w' hw' => by simp [execOp, resolve, invoke, builtin, Builtin.len_, et, eu, run_underlying hS, goInt], rfl, ?_⟩
          simp [inR, IntKind.min, IntKind.max, IntKind.signed, IntKind.bits]
      · cases h
    · split at h
      · rename_i x y hargs
        have hx := hop x
        have hy := hop y
        have ea : args = #[x, y] := by apply Array.ext'; simpa using hargs
        subst ea
        split at h
        · rename_i k n k' m e1 e2
          rw [e1] at hx; rw [e2] at hy
          cases hk : decide (k = k') with
          | false => rw [hk] at h; cases h
          | true =>
            rw [hk] at h
            obtain rfl := of_decide_eq_true hk
            simp only [cond_true, Option.some.injEq, Prod.mk.injEq] at h
            obtain ⟨_, rfl⟩ := h
            exact ⟨_, fun w' hw' => by simp [execOp, resolve, invoke, builtin, Builtin.min_, hx.1, hy.1, Builtin.min2, List.foldlM], rfl, by split; exact hy.2; exact hx.2⟩
        · cases h
      · cases h
    · split at h
      · rename_i x y hargs
        have hx := hop x
        have hy := hop y
        have ea : args = #[x, y] := by apply Array.ext'; simpa using hargs
        subst ea
        split at h
        · rename_i k n k' m e1 e2
          rw [e1] at hx; rw [e2] at hy
          cases hk : decide (k = k') with
          | false => rw [hk] at h; cases h
          | true =>
            rw [hk] at h
            obtain rfl := of_decide_eq_true hk
            simp only [cond_true, Option.some.injEq, Prod.mk.injEq] at h
            obtain ⟨_, rfl⟩ := h
            exact ⟨_, fun w' hw' => by simp [execOp, resolve, invoke, builtin, Builtin.max_, hx.1, hy.1, Builtin.max2, List.foldlM], rfl, by split; exact hy.2; exact hx.2⟩
        · cases h
      · cases h
    · cases h
theorem evP_sound (htt : TTok P tt) {A : AS} {a : Act} (hop : ∀ x, Rv G w (opd A x) (a.eval x)) (hob : ObOk G w A) (o : Oper) {id : Nat} {chk : Bool} {v : V}
    (h : evP tt id A o.type o.op = some (chk, v)) (hc : chk = true) : ∃ u, (execOp a.eval o).run P w = .ok (.value u) w ∧ Rv G w v u := by
  obtain ⟨u, h1, h2⟩ := evP_all (H := fun _ => True) htt hop hob o h hc fun _ _ _ _ _ _ => trivial
  exact ⟨u, h1 w (fun _ => Agr.refl _ _ _), h2⟩
end

end Go.Proofs.Ytnppjkijhcampaa.Sym
