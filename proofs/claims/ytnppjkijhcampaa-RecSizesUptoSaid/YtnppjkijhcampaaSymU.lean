/- From the reading of a call's arguments to data; a law's call. -/
import Derived.Test.YtnppjkijhcampaaBase
import Derived.Test.YtnppjkijhcampaaRows
import Derived.WalkKit
import Derived.ProofKit
import Derived.OpenShut
import Derived.JoinedCond
import Derived.ChangeStays
import Derived.DataReads

namespace Go.Proofs.Ytnppjkijhcampaa.Sym
open Go
open Go.ChangeShapes Go.WideShapes Go.ChangeAt Go.RowKit
set_option linter.unusedSimpArgs false
set_option linter.unusedVariables false

/-- Does a type stand for these data? (a type, or fields from an offset on) -/
def okTF (P : Program) : Ty → (TypeId ⊕ (List Field × Nat)) → Bool
  | .int k, .inl t => match P.underlying t with
    | some (.int k') => decide (k' = k)
    | _ => false
  | .bool, .inl t => match P.underlying t with
    | some .bool => true
    | _ => false
  | .str, .inl t => match P.underlying t with
    | some .string => true
    | _ => false
  | .sl e ty, .inl t => match P.underlying t with
    | some (.slice e') => (e' == e) && (okTF P ty (.inl e) && ((P.cellsOf e == ty.size) && !(ty.size == 0)))
    | _ => false
  | .prod a b, .inl t => match P.underlying t with
    | some (.struct fs) => (P.cellsOf t == a.size + b.size) && match fs.toList with
      | f :: fs' => (f.offset == 0) && ((P.cellsOf f.type == a.size) && (okTF P a (.inl f.type) && okTF P b (.inr (fs', a.size))))
      | [] => false
    | _ => false
  | .unit, .inr ([], _) => true
  | .prod a b, .inr (f :: fs, off) => (f.offset == off) && ((P.cellsOf f.type == a.size) && (okTF P a (.inl f.type) && okTF P b (.inr (fs, off + a.size))))
  | _, _ => false

/-- How much the data hold. -/
def dsz : (t : Ty) → t.den → Nat
  | .int _, _ => 1
  | .bool, _ => 1
  | .str, s => List.length (α := Int) s + 1
  | .sl _ t, xs => (List.map (dsz t) xs).sum + 1
  | .unit, _ => 0
  | .prod a b, x => dsz a x.1 + dsz b x.2

def S0 (W : World) (b o : Nat) : Prop := ∃ v, W.cell? ⟨b, o, none⟩ = some v

section
variable {P : Program} {W : World} {H : Type} {enc : TypeId × Value → H} {sp : Nat → Bool} {held : Bool}

theorem cells_at {a : Addr} {n : Nat} {cs : List Value} (h : W.cells? 0 a n = some cs) (hn : 0 < n) : a.spot = none ∧ cs.length = n ∧ At (S0 W) W a.block a.off cs := by
  simp only [World.cells?, Nat.zero_le, if_true] at h
  have hl := mapM_some_length h
  rw [List.length_range] at hl
  have hg : ∀ i, i < n → W.cell? (a.add i) = cs[i]? := fun i hi => mapM_some_get h i i (by simp [hi])
  have hsp : a.spot = none := by
    have h0 := hg 0 hn
    rw [List.getElem?_eq_getElem (by omega)] at h0
    unfold World.cell? at h0
    split at h0
    · split at h0
      · cases h0
      · rename_i hs
        cases e : a.spot with
        | none => rfl
        | some x => simp [Addr.add, e] at hs
    · cases h0
  refine ⟨hsp, hl, fun j v hv => ?_⟩
  have hj : j < n := by rw [← hl]; exact (List.getElem?_eq_some_iff.1 hv).1
  have := hg j hj
  rw [hv] at this
  have e : a.add j = ⟨a.block, a.off + j, none⟩ := by
    obtain ⟨b, o, s⟩ := a
    simp only at hsp
    subst hsp
    exact Addr.add_plain ..
  rw [e] at this
  exact ⟨⟨v, this⟩, this⟩

theorem okT_notUnit {t : TypeId} : okTF P .unit (.inl t) = false := by simp [okTF]

theorem trod_dat (ub : DataW H → Nat) (uba : List (DataW H) → Nat) (u1 : ∀ l, 1 ≤ ub (.lit l)) (u2 : ∀ bs, bs.length + 1 ≤ ub (.lit (.string bs))) (u3 : 1 ≤ ub .nil) (u4 : ∀ es ss, uba es + 1 ≤ ub (.slice es ss)) (u5 : ∀ ps, uba ps ≤ ub (.agg ps))
    (u6 : ∀ d ds, uba (d :: ds) = ub d + uba ds) (u7 : uba [] = 0) :
    ∀ (ty : Ty), (∀ (t : TypeId), okTF P ty (.inl t) = true → ∀ (fuel : Nat) (cs : List Value) (x : DataW H × List MemPlace), DataW.trod enc P W 0 sp held fuel t cs = some x → ∃ y : ty.den, Rt (S0 W) W ty y cs ∧ dsz ty y ≤ ub x.1) ∧
      (∀ (fs : List Field) (off : Nat), okTF P ty (.inr (fs, off)) = true → ∀ (fuel : Nat) (cs : List Value) (xs : List (DataW H × List MemPlace)), fs.mapM (fun f => DataW.trod enc P W 0 sp held fuel f.type ((cs.drop f.offset).take (P.cellsOf f.type))) = some xs →
        (cs.drop off).length = ty.size → ∃ y : ty.den, Rt (S0 W) W ty y (cs.drop off) ∧ dsz ty y ≤ uba (xs.map (·.1)))
  | .int k => by
    refine ⟨fun t ht fuel cs x h => ?_, fun fs off ht => by cases fs <;> simp [okTF] at ht⟩
    simp only [okTF] at ht
    split at ht
    · rename_i k' hu
      have ht := of_decide_eq_true ht
      subst ht
      obtain ⟨n2, rfl, rfl, hw⟩ := DataW.trod_int hu h
      refine ⟨n2, ⟨rfl, ?_⟩, u1 _⟩
      simpa [Lit.wf, inR] using hw
    · cases ht
  | .bool => by
    refine ⟨fun t ht fuel cs x h => ?_, fun fs off ht => by cases fs <;> simp [okTF] at ht⟩
    simp only [okTF] at ht
    split at ht
    · rename_i hu
      obtain ⟨b, rfl, rfl⟩ := DataW.trod_bool hu h
      exact ⟨b, rfl, u1 _⟩
    · cases ht
  | .str => by
    refine ⟨fun t ht fuel cs x h => ?_, fun fs off ht => by cases fs <;> simp [okTF] at ht⟩
    simp only [okTF] at ht
    split at ht
    · rename_i hu
      obtain ⟨s, rfl, rfl, hl⟩ := DataW.trod_string hu h
      refine ⟨unStr s, ⟨by rw [mkStr_unStr], unStr_byteR s, ?_⟩, ?_⟩
      · have : (unStr s).length = s.size := by rw [← mkStr_size, mkStr_unStr]
        rw [this]; exact hl
      · have : (unStr s).length = s.data.toList.length := by unfold unStr; exact List.length_map _
        show (unStr s).length + 1 ≤ _
        rw [this]
        exact u2 _
    · cases ht
  | .unit => by
    refine ⟨fun t ht => by simp [okTF] at ht, fun fs off ht fuel cs xs h hl => ?_⟩
    refine ⟨(), ?_, Nat.zero_le _⟩
    exact List.eq_nil_of_length_eq_zero hl
  | .sl e ty => by
    refine ⟨fun t ht fuel cs x h => ?_, fun fs off ht => by cases fs <;> simp [okTF] at ht⟩
    simp only [okTF] at ht
    split at ht
    · rename_i e' hu
      simp only [Bool.and_eq_true, beq_iff_eq, Bool.not_eq_true', beq_eq_false_iff_ne] at ht
      obtain ⟨rfl, hT, hsz, hpos⟩ := ht
      have ih := (trod_dat ub uba u1 u2 u3 u4 u5 u6 u7 ty).1 e' hT
      rcases DataW.trod_slice hu h with ⟨rfl, rfl⟩ | ⟨a, len, cap, elems, rest, n, _, rfl, rfl, hb, hl, hm, hlen, hel, _, _⟩
      · exact ⟨[], ⟨none, 0, rfl, Nat.le_refl _, Nat.zero_le _, fun h => absurd rfl h⟩, u3⟩
      · have each : ∀ i, i < len → ∃ y : ty.den, (∃ c, Rt (S0 W) W ty y c ∧ (i = 0 → a.spot = none) ∧ At (S0 W) W a.block (a.off + i * ty.size) c) ∧ ∃ d, elems[i]? = some d ∧ dsz ty y ≤ ub d.1 := by
          intro i hi
          have h1 := hel i hi
          rw [List.getElem?_eq_getElem (by omega)] at h1
          obtain ⟨c, hc, hd⟩ := Option.bind_eq_some_iff.1 h1
          obtain ⟨y, hy, hs⟩ := ih _ _ _ hd
          rw [hsz] at hc
          obtain ⟨h2, h3, h4⟩ := cells_at hc (by omega)
          have e1 : (a.add (i * ty.size)).block = a.block := by unfold Addr.add; split <;> rfl
          have e2 : (a.add (i * ty.size)).off = a.off + i * ty.size := by
            unfold Addr.add
            split
            · rename_i h0; rw [h0]; rfl
            · rfl
          rw [e1, e2] at h4
          refine ⟨y, ⟨c, hy, fun h0 => ?_, h4⟩, elems[i], by simp, hs⟩
          subst h0
          simpa [Addr.add] using h2
        have mk : ∀ m, m ≤ len → ∃ ys : List ty.den, ys.length = m ∧ (∀ i y, ys[i]? = some y → ∃ c, Rt (S0 W) W ty y c ∧ (i = 0 → a.spot = none) ∧ At (S0 W) W a.block (a.off + i * ty.size) c) ∧ (ys.map (dsz ty)).sum ≤ uba ((elems.take m).map (·.1)) := by
          intro m
          induction m with
          | zero => intro _; exact ⟨[], rfl, fun i y h => by simp at h, by simp⟩
          | succ m ihm =>
            intro hm'
            obtain ⟨ys, g1, g2, g3⟩ := ihm (by omega)
            obtain ⟨y, g4, d, g5, g6⟩ := each m (by omega)
            refine ⟨ys ++ [y], by simp [g1], fun i z hz => ?_, ?_⟩
            · rw [List.getElem?_append] at hz
              split at hz
              · exact g2 i z hz
              · rename_i hlt
                have : i = m := by
                  have := (List.getElem?_eq_some_iff.1 hz).1
                  simp at this; omega
                subst this
                simp [g1] at hz
                subst hz
                exact g4
            · have hap : ∀ (xs bs : List (DataW H)), uba (xs ++ bs) = uba xs + uba bs := by
                intro xs bs
                induction xs with
                | nil => simp [u7]
                | cons c xs ih => rw [List.cons_append, u6, u6, ih]; omega
              rw [List.take_add_one, g5]
              simp only [List.map_append, List.sum_append, hap, Option.toList, List.map_cons, List.map_nil, List.sum_cons, List.sum_nil, u6, u7]
              omega
        obtain ⟨ys, g1, g2, g3⟩ := mk len (Nat.le_refl _)
        refine ⟨ys, ⟨some a, cap, by rw [g1], by omega, hm, fun hne => ?_⟩, ?_⟩
        · have h0 : 0 < ys.length := List.length_pos_iff.2 hne
          obtain ⟨c, _, hsp, _⟩ := g2 0 ys[0] (by simp)
          have hsp := hsp rfl
          refine ⟨a.block, a.off, ?_, fun i y hy => ?_⟩
          · obtain ⟨b, o, s⟩ := a
            simp only at hsp
            rw [hsp]
          · obtain ⟨c, hc, _, hat⟩ := g2 i y hy
            exact ⟨c, hc, hat⟩
        · rw [List.take_of_length_le (by omega)] at g3
          show (ys.map (dsz ty)).sum + 1 ≤ _
          exact Nat.le_trans (by omega) (u4 _ _)
    · cases ht
  | .prod a b => by
    have step : ∀ (f : Field) (fs : List Field) (off : Nat), ((f.offset == off) && ((P.cellsOf f.type == a.size) && (okTF P a (.inl f.type) && okTF P b (.inr (fs, off + a.size))))) = true →
        ∀ (fuel : Nat) (cs : List Value) (xs : List (DataW H × List MemPlace)), (f :: fs).mapM (fun f => DataW.trod enc P W 0 sp held fuel f.type ((cs.drop f.offset).take (P.cellsOf f.type))) = some xs →
        (cs.drop off).length = a.size + b.size → ∃ y : a.den × b.den, Rt (S0 W) W (.prod a b) y (cs.drop off) ∧ dsz a y.1 + dsz b y.2 ≤ uba (xs.map (·.1)) := by
      intro f fs off ht fuel cs xs h hl
      simp only [Bool.and_eq_true, beq_iff_eq] at ht
      obtain ⟨rfl, hs, hA, hB⟩ := ht
      simp only [List.mapM_cons, Option.bind_eq_bind, Option.bind_eq_some_iff] at h
      obtain ⟨x0, h0, xs', h1, h2⟩ := h
      simp only [Option.pure_def, Option.some.injEq] at h2
      subst h2
      rw [hs] at h0
      obtain ⟨y1, hy1, hd1⟩ := (trod_dat ub uba u1 u2 u3 u4 u5 u6 u7 a).1 f.type hA _ _ _ h0
      have hl2 : (cs.drop (f.offset + a.size)).length = b.size := by
        simp only [List.length_drop] at hl ⊢
        omega
      obtain ⟨y2, hy2, hd2⟩ := (trod_dat ub uba u1 u2 u3 u4 u5 u6 u7 b).2 fs _ hB _ _ _ h1 hl2
      refine ⟨(y1, y2), ⟨_, _, ?_, hy1, hy2⟩, ?_⟩
      · rw [← List.drop_drop, List.take_append_drop]
      · simp only [List.map_cons, u6]
        omega
    refine ⟨fun t ht fuel cs x h => ?_, fun fs off ht fuel cs xs h hl => ?_⟩
    · simp only [okTF] at ht
      split at ht
      · rename_i fs hu
        simp only [Bool.and_eq_true, beq_iff_eq] at ht
        obtain ⟨hsz, ht⟩ := ht
        split at ht
        · rename_i f fs' hfs
          cases fuel with
          | zero => simp [DataW.trod] at h
          | succ n =>
            unfold DataW.trod at h
            rw [hu] at h
            simp only at h
            split at h
            · rename_i hlen
              obtain ⟨xs, hxs, rfl⟩ := Option.map_eq_some_iff.1 h
              rw [hfs] at hxs
              obtain ⟨y, hy, hd⟩ := step f fs' 0 (by simpa using ht) n cs xs hxs (by simpa [hsz] using hlen)
              exact ⟨y, by simpa using hy, Nat.le_trans hd (u5 _)⟩
            · cases h
        · cases ht
      · cases ht
    · cases fs with
      | nil => simp [okTF] at ht
      | cons f fs => exact step f fs off (by simpa only [okTF] using ht) fuel cs xs h hl

theorem datOf {ty : Ty} {t : TypeId} (ht : okTF P ty (.inl t) = true) {fuel : Nat} {cs : List Value} {d : DataW H} {ps : List MemPlace} (h : DataW.trod enc P W 0 sp held fuel t cs = some (d, ps)) : ∃ y : ty.den, Rt (S0 W) W ty y cs ∧ dsz ty y ≤ Rows.uptoBulk d :=
  (trod_dat Rows.uptoBulk Rows.uptoBulkAll (fun l => by cases l <;> simp [Rows.uptoBulk]) (fun bs => by simp [Rows.uptoBulk]) (by simp [Rows.uptoBulk]) (fun es ss => by simp [Rows.uptoBulk]) (fun ps => by simp [Rows.uptoBulk]) (fun d ds => by simp [Rows.uptoBulkAll]) (by simp [Rows.uptoBulkAll]) ty).1 t ht fuel cs _ h
theorem dsz_pos_sum {t : Ty} (hp : ∀ x : t.den, 1 ≤ dsz t x) : ∀ xs : List t.den, xs.length ≤ (xs.map (dsz t)).sum
  | [] => by simp
  | x :: xs => by
    have := dsz_pos_sum hp xs
    have := hp x
    simp only [List.length_cons, List.map_cons, List.sum_cons]
    omega
theorem dsz_len {e : Nat} {k : IntKind} (xs : (Ty.sl e (.int k)).den) : List.length xs ≤ dsz (.sl e (.int k)) xs := by
  have := dsz_pos_sum (t := .int k) (fun _ => Nat.le_refl 1) xs
  show _ ≤ (List.map (dsz (.int k)) xs).sum + 1
  exact Nat.le_trans this (Nat.le_succ _)

/-! ### a law's call -/
def G0 (W : World) : Gh := ⟨S0 W, fun _ => none, fun _ => none⟩
def F0 (W : World) : Fra := ⟨W, fun _ => False, S0 W, fun _ => none⟩
theorem rel0 (W : World) : Rel (F0 W) (G0 W) ⟨[], [], []⟩ #[] [] W where
  tm := trivial
  stk := trivial
  ob := fun k cs h => by simp at h
  gh := ⟨fun _ _ h => (by cases h), fun _ _ _ h => (by cases h), fun _ _ _ h => (by cases h), fun _ _ _ _ _ h => (by cases h), fun b o h => (by
      obtain ⟨v, h⟩ := h
      unfold World.cell? at h
      split at h
      · rename_i e
        exact (Array.getElem?_eq_some_iff.1 e).1
      · cases h), ⟨rfl, rfl, rfl, Nat.le_refl _, fun _ _ _ => rfl⟩, fun _ _ h => h, fun _ _ h => .inl h, fun _ _ _ => rfl, fun _ _ h => (by cases h)⟩
def lawK (oc : Oc) (A : AS) : Option Unit := match oc with
  | .ret (.one (.bool true)) _ => some ()
  | _ => none
theorem law_calls {f : Nat} {io : Io} {Fn : io.In → Tr io.Res} (hok : HcOk P f (ioHd io Fn)) {args : List V} {vals : Array Value} (hargs : All2 (Rv (G0 W) W) args vals.toList) (hrun : ioHd io Fn Unit args 1 ⟨[], [], []⟩ lawK = some ()) :
    Calls P f vals W fun e w' => e = .returned (.bool true) ∧ w'.os = W.os ∧ w'.output = W.output ∧ ∀ i, i < W.heap.size → w'.heap[i]? = W.heap[i]? := by
  refine (hok Unit args 1 _ lawK () (F0 W) (G0 W) #[] [] W vals (fun _ => rfl) hrun (rel0 W) hargs).2.mono ?_
  rintro e w' ⟨G', A', v, u, R', hv, h⟩
  have hfr := R'.gh.fr
  refine ⟨?_, hfr.os, hfr.output, fun i hi => hfr.block i hi (fun h => h)⟩
  rcases h with ⟨rfl, ks, _, hk⟩ | ⟨rfl, hk⟩
  · unfold lawK at hk
    split at hk
    · rename_i e
      cases e
      rw [show u = .bool true from hv]
    · cases hk
  · cases hk

/-! ### arguments -/
def argV (ty : Ty) (y : ty.den) : V := bif ty.isProd then .agg (toCs ty y) else match toCs ty y with
  | [c] => .one c
  | _ => .any
theorem argV_sound {G : Gh} {ty : Ty} {y : ty.den} {v : Value} (h : Rt G.S W ty y v.cells.toList) (hp : ty.isProd = true → ∃ vs, v = .agg vs) (hn : ty.isProd = false → v.cells = #[v]) : Rv G W (argV ty y) v := by
  have hs := toCs_sound (G := G) (w := W) ty y _ h
  unfold argV
  cases hb : ty.isProd with
  | true =>
    obtain ⟨vs, rfl⟩ := hp hb
    exact ⟨vs, rfl, hs⟩
  | false =>
    rw [hn hb] at hs
    simp only [cond_false]
    split
    · rename_i c e
      rw [e] at hs
      exact hs.1
    · trivial
theorem arg_shape {ty : Ty} {t : TypeId} (ht : okTF P ty (.inl t) = true) {r : Reach} {base : Nat} {v : Value} (hval : Value.okWide P W r base t v) : (ty.isProd = true → ∃ vs, v = .agg vs) ∧ (ty.isProd = false → v.cells = #[v]) := by
  cases ty with
  | int k =>
    refine ⟨fun h => (by cases h), fun _ => ?_⟩
    simp only [okTF] at ht
    split at ht
    · rename_i k' hu
      cases v <;> simp [Value.okWide, hu, Cell.okWide, Cell.ok] at hval <;> rfl
    · cases ht
  | bool =>
    refine ⟨fun h => (by cases h), fun _ => ?_⟩
    simp only [okTF] at ht
    split at ht
    · rename_i hu
      cases v <;> simp [Value.okWide, hu, Cell.okWide, Cell.ok] at hval <;> rfl
    · cases ht
  | str =>
    refine ⟨fun h => (by cases h), fun _ => ?_⟩
    simp only [okTF] at ht
    split at ht
    · rename_i hu
      cases v <;> simp [Value.okWide, hu, Cell.okWide, Cell.ok] at hval <;> rfl
    · cases ht
  | sl e ty =>
    refine ⟨fun h => (by cases h), fun _ => ?_⟩
    simp only [okTF] at ht
    split at ht
    · rename_i e' hu
      cases v <;> simp [Value.okWide, hu, Cell.okWide, Cell.ok] at hval <;> rfl
    · cases ht
  | unit => simp [okTF] at ht
  | prod a b =>
    refine ⟨fun _ => ?_, fun h => (by cases h)⟩
    simp only [okTF] at ht
    split at ht
    · rename_i fs hu
      simp only [Value.okWide, hu] at hval
      obtain ⟨cs, rfl, _⟩ := hval
      exact ⟨cs, rfl⟩
    · cases ht
/-- No slice's elements are without cells. -/
def slicesB (P : Program) : Bool := (List.range P.types.size).all fun t => match P.underlying t with
  | some (.slice e) => decide (0 < P.cellsOf e)
  | _ => true
theorem args_stay (hl : laidOutB P = true) (hm : mapsRowed P = true) (hs : slicesB P = true) {W' : World} (hk : ∀ i, i < W.heap.size → W'.heap[i]? = W.heap[i]?) : ∀ {ts : List TypeId} {vs : List Value} {ds : List (DataW H)} {ps : List MemPlace},
    (∀ t ∈ ts, t < P.types.size) → DataW.TrodAll enc P W 0 (fun _ => true) true ts vs ds ps → (∀ p ∈ ps, sp p.block = true) → DataW.TrodAll enc P W' 0 sp true ts vs ds ps
  | [], [], [], _, _, h, _ => h
  | t :: ts, v :: vs, d :: ds, ps, hT, ⟨p, q, ⟨fuel, h1⟩, h2, e⟩, hsp => by
    refine ⟨p, q, ⟨fuel, DataW.trod_stays (kids_rows hl hm) (fun {t e} ht hu => ?_) (fun h => (by cases h)) (hT t (by simp)) h1 (fun x hx => ?_) fun x hx => hsp x (by rw [e]; exact List.mem_append_left _ hx)⟩,
      args_stay hl hm hs hk (fun t ht => hT t (by simp [ht])) h2 (fun x hx => hsp x (by rw [e]; exact List.mem_append_right _ hx)), e⟩
    · have := List.all_eq_true.1 hs t (by simpa using ht)
      rw [hu] at this
      exact of_decide_eq_true this
    · have hb := DataW.trod_lt _ _ _ _ h1 x hx
      cases x with
      | cell b off => simp [World.sameAt, World.cell?, hk b hb]
      | map b => exact hk b hb
  | [], [], _ :: _, _, _, h, _ => h.elim
  | [], _ :: _, _, _, _, h, _ => h.elim
  | _ :: _, [], _, _, _, h, _ => h.elim
  | _ :: _, _ :: _, [], _, _, h, _ => h.elim

/-- The world behind the call is the old one and new blocks: what the law says follows. -/
theorem post_law {f : Func} {s : ChangeSpec} {apart fresh handsOn again : Bool} {W' : World} {args : Array Value} {ds gs : List (DataW H)} {before : List MemPlace}
    (hl : laidOutB P = true) (hm : mapsRowed P = true) (hs : slicesB P = true) (hT : ∀ t ∈ f.params.toList, t < P.types.size) {tb : TypeId} (hr : f.resultTypes = #[tb]) (htb : P.underlying tb = some .bool) (hv : s.vars = [])
    (hW : DataW.Whole enc P f.params.toList s.vars apart W args.toList ds gs before) (hfn : s.fn H (ds ++ gs) = { results := [.lit (.bool true)], args := ds })
    (hos : W'.os = W.os) (hout : W'.output = W.output) (hk : ∀ i, i < W.heap.size → W'.heap[i]? = W.heap[i]?) : s.post enc P f apart fresh handsOn again W args (.bool true) W' := by
  have hlt := hW.lt
  obtain ⟨p, q, hA, hV, hpq, hfz, hnd⟩ := id hW
  rw [hv] at hV
  obtain ⟨rfl, rfl⟩ := trodVars_none hV
  rw [List.append_nil] at hpq
  subst hpq
  have hres : ∀ (b : Nat) (sp : Nat → Bool) (hd : Bool), DataW.TrodAll enc P W' b sp hd f.resultTypes.toList ((Value.bool true).resultList f.resultTypes.size) [.lit (.bool true)] [] := by
    intro b sp hd
    rw [hr]
    exact trodAll_cons_mk (shut_bool htb _) trodAll_mk0
  have hargs : ∀ sp : Nat → Bool, (∀ x ∈ before, sp x.block = true) → DataW.TrodAll enc P W' 0 sp true f.params.toList args.toList ds before :=
    fun sp hsp => args_stay hl hm hs hk hT hA hsp
  have hvars : ∀ sp : Nat → Bool, DataW.TrodVars enc P W' sp s.vars [] [] := by
    intro sp
    rw [hv]
    rfl
  have hold : ∀ x ∈ before, (fun b => decide (b < W.heap.size)) x.block = true := fun x hx => by simpa using hlt x hx
  have hkept : ∀ may : MemPlace → Prop, W.keptBut W' may := fun may => ⟨hos, hout, fun i hi => by
    rw [hk i hi]
    cases h : W.heap[i]? with
    | none => rfl
    | some o => cases o <;> simp⟩
  refine ⟨ds, [], before, [], before, [], hW, by rw [hfn]; exact hres _ _ _, by rw [hfn]; exact hargs _ hold, by rw [hfn]; exact hvars _, hkept _, fun _ => ?_⟩
  refine ⟨ok_one hr rfl (okWide_bool_mk htb true), [.lit (.bool true)] ++ ds, [], [] ++ before, ⟨[] ++ before, [], trodAll_append (hargs _ fun _ _ => rfl) (hres _ _ _), hvars _, by simp, fun b off hx => ?_, fun ha => by simpa using hnd ha⟩, fun x hx _ => by simpa using hx⟩
  have hx : MemPlace.cell b off ∈ before := by simpa using hx
  rw [← hfz b off hx]
  simp [World.frozen?, hk b (hlt _ hx)]

/-! ### all arguments -/
@[reducible] def TysDen : List Ty → Type
  | [] => Unit
  | t :: ts => t.den × TysDen ts
def argVs : (tys : List Ty) → TysDen tys → List V
  | [], _ => []
  | t :: ts, y => argV t y.1 :: argVs ts y.2
def dszs : (tys : List Ty) → TysDen tys → Nat
  | [], _ => 0
  | t :: ts, y => dsz t y.1 + dszs ts y.2
def wfs : (tys : List Ty) → TysDen tys → Prop
  | [], _ => True
  | t :: ts, y => t.wf y.1 ∧ wfs ts y.2
def okTs (P : Program) : List Ty → List TypeId → Bool
  | [], [] => true
  | ty :: tys, t :: ts => okTF P ty (.inl t) && okTs P tys ts
  | _, _ => false
theorem args_dat {r : Reach} {base : Nat} : ∀ (tys : List Ty) (ts : List TypeId), okTs P tys ts = true → ∀ {vs : List Value} {ds : List (DataW H)} {ps : List MemPlace}, DataW.TrodAll enc P W 0 sp held ts vs ds ps →
    (∀ (j : Nat) t v, ts[j]? = some t → vs[j]? = some v → Value.okWide P W r base t v) →
    ∃ ys : TysDen tys, All2 (Rv (G0 W) W) (argVs tys ys) vs ∧ dszs tys ys ≤ Rows.uptoBulkAll ds ∧ wfs tys ys ∧ ds.length = tys.length
  | [], [], _, [], [], _, _, _ => ⟨(), trivial, Nat.zero_le _, trivial, rfl⟩
  | ty :: tys, t :: ts, ht, v :: vs, d :: ds, _, ⟨p, q, ⟨fuel, h1⟩, h2, _⟩, hv => by
    simp only [okTs, Bool.and_eq_true] at ht
    obtain ⟨y, hy, hs⟩ := datOf ht.1 h1
    obtain ⟨k1, k2⟩ := arg_shape ht.1 (hv 0 t v rfl rfl)
    obtain ⟨ys, g1, g2, g3, g4⟩ := args_dat tys ts ht.2 h2 fun j t' v' e1 e2 => hv (j + 1) t' v' (by simpa using e1) (by simpa using e2)
    refine ⟨(y, ys), ⟨argV_sound hy k1 k2, g1⟩, ?_, ⟨Rt.wf ty y _ hy, g3⟩, by simp [g4]⟩
    simp only [dszs, Rows.uptoBulkAll]
    omega
  | [], [], _, [], _ :: _, _, h, _ => h.elim
  | [], [], _, _ :: _, _, _, h, _ => h.elim
  | _ :: _, _ :: _, _, [], _, _, h, _ => h.elim
  | _ :: _, _ :: _, _, _ :: _, [], _, h, _ => h.elim
  | [], _ :: _, h, _, _, _, _, _ => by cases h
  | _ :: _, [], h, _, _, _, _, _ => by cases h

/-- A law's row, from its contract. -/
theorem law_contract {fn : Func} {f : Nat} {io : Io} {Fn : io.In → Tr io.Res} (hok : HcOk P f (ioHd io Fn)) {s : ChangeSpec} (tys : List Ty) (hts : okTs P tys fn.params.toList = true)
    (hl : laidOutB P = true) (hm : mapsRowed P = true) (hs : slicesB P = true) (hT : ∀ t ∈ fn.params.toList, t < P.types.size) {tb : TypeId} (hr : fn.resultTypes = #[tb]) (htb : P.underlying tb = some .bool) (hv : s.vars = [])
    (hfn : ∀ ds : List (DataW H), ds.length = tys.length → s.fn H ds = { results := [.lit (.bool true)], args := ds })
    (hrun : ∀ ys : TysDen tys, dszs tys ys ≤ 1048576 → wfs tys ys → ioHd io Fn Unit (argVs tys ys) 1 ⟨[], [], []⟩ lawK = some ())
    (base : Nat) (args : Array Value) (ds gs : List (DataW H)) (before : List MemPlace)
    (hval : ∀ (j : Nat) t v, fn.params[j]? = some t → args[j]? = some v → Value.okWide P W .any base t v)
    (hW : DataW.Whole enc P fn.params.toList s.vars false W args.toList ds gs before) (hk : Rows.uptoSmall H (ds ++ gs) = true) :
    Calls P f args W fun e W' => ∃ v, e = .returned v ∧ s.post enc P fn false true false false W args v W' := by
  have hW' := hW
  obtain ⟨p, q, hA, hV, _, _, _⟩ := hW
  rw [hv] at hV
  obtain ⟨rfl, rfl⟩ := trodVars_none hV
  obtain ⟨ys, g1, g2, g3, g4⟩ := args_dat tys fn.params.toList hts hA fun j t v e1 e2 => hval j t v (by simpa using e1) (by simpa using e2)
  have hb : Rows.uptoBulkAll ds ≤ 1048576 := by simpa [Rows.uptoSmall] using hk
  refine (law_calls hok (vals := args) (args := argVs tys ys) g1 (hrun ys (by omega) g3)).mono ?_
  rintro e W' ⟨rfl, hos, hout, hkeep⟩
  exact ⟨_, rfl, post_law hl hm hs hT hr htb hv hW' (by rw [List.append_nil]; exact hfn ds g4) hos hout hkeep⟩
end
end Go.Proofs.Ytnppjkijhcampaa.Sym
