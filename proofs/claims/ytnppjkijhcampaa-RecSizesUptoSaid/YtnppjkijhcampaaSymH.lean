/- The relation between an abstract state and a frame and a world, and how it goes on over the steps that touch memory. -/
import Derived.Test.YtnppjkijhcampaaSymG
import Derived.Lib.ConvBytes

namespace Go.Proofs.Ytnppjkijhcampaa.Sym
open Go
set_option linter.unusedSimpArgs false
set_option linter.unusedVariables false

/-- Where a call began, and which of the blocks of then it may write. -/
structure Fra where
  w0 : World
  X : Nat → Prop
  S0 : Nat → Nat → Prop
  mu0 : Nat → Option Nat
def Fra.mine (F : Fra) (b : Nat) : Prop := F.w0.heap.size ≤ b ∨ F.X b
structure Fra.ok (F : Fra) (w : World) : Prop where
  os : w.os = F.w0.os
  tape : w.tape = F.w0.tape
  output : w.output = F.w0.output
  size : F.w0.heap.size ≤ w.heap.size
  block : ∀ k, k < F.w0.heap.size → ¬ F.X k → w.heap[k]? = F.w0.heap[k]?

structure GhOk (F : Fra) (G : Gh) (w : World) : Prop where
  mu : ∀ key b, G.mu key = some b → F.mine b ∧ (∀ o, ¬ G.S b o) ∧ b < w.heap.size
  muI : ∀ key key' b, G.mu key = some b → G.mu key' = some b → key = key'
  ow : ∀ i b l, G.ow i = some (b, l) → (∀ o, l ≤ o → ¬ G.S b o) ∧ F.mine b ∧ b < w.heap.size ∧ ∀ key, G.mu key ≠ some b
  owI : ∀ i j b l l', G.ow i = some (b, l) → G.ow j = some (b, l') → i = j
  sB : ∀ b o, G.S b o → b < w.heap.size
  fr : F.ok w
  sub : ∀ b o, F.S0 b o → G.S b o
  sup : ∀ b o, G.S b o → F.S0 b o ∨ F.mine b
  keep : ∀ b o, F.S0 b o → w.cell? ⟨b, o, none⟩ = F.w0.cell? ⟨b, o, none⟩
  fix_ : ∀ key b, F.mu0 key = some b → G.mu key = some b

structure Rel (F : Fra) (G : Gh) (A : AS) (ts : Array Value) (cst : List (Array Value)) (w : World) : Prop where
  tm : All2 (Rv G w) A.tm ts.toList
  stk : All2 (fun vs (t : Array Value) => All2 (Rv G w) vs t.toList) A.stk cst
  ob : ObOk G w A
  gh : GhOk F G w

theorem Rv.any {G : Gh} {w : World} {v : Value} : Rv G w .any v := trivial
theorem Rel.get {F : Fra} {G : Gh} {A : AS} {ts : Array Value} {cst : List (Array Value)} {w : World} (R : Rel F G A ts cst w) (t : Nat) : Rv G w (A.get t) (ts.getD t undef) := by
  unfold AS.get
  cases h : A.tm[t]? with
  | none => rw [List.getD_eq_getElem?_getD, h]; trivial
  | some v =>
    obtain ⟨u, hu, hr⟩ := R.tm.get h
    have : ts.getD t undef = u := by
      have hu' : ts[t]? = some u := by simpa using hu
      simp [Array.getD_eq_getD_getElem?, hu']
    rw [List.getD_eq_getElem?_getD, h, this]
    exact hr
theorem Rel.opd {F : Fra} {G : Gh} {A : AS} {a : Act} {cst : List (Array Value)} {w : World} (R : Rel F G A a.tmps cst w) (x : Operand) : Rv G w (opd A x) (a.eval x) := by
  cases x with
  | tmp t => exact R.get t
  | const v => exact vOfVal_sound v
  | global g => trivial
  | func f => exact ⟨#[], rfl, trivial⟩

theorem All2.map2 {α β : Type} {R R' : α → β → Prop} {f : α → α} : ∀ {as : List α} {bs : List β}, (∀ a b, R a b → R' (f a) b) → All2 R as bs → All2 R' (as.map f) bs := fun h h' => All2.map_left f h h'

theorem AS.map_ob {f : C → C} {A : AS} {key : Nat} {cs : List C} (h : (A.map f).ob[key]? = some (some cs)) : ∃ cs0, A.ob[key]? = some (some cs0) ∧ cs = cs0.map f := by
  simp only [AS.map, List.getElem?_map] at h
  cases h0 : A.ob[key]? with
  | none => rw [h0] at h; cases h
  | some o =>
    rw [h0] at h
    cases o with
    | none => cases h
    | some cs0 =>
      simp only [Option.map_some, Option.some.injEq] at h
      exact ⟨cs0, rfl, h.symm⟩

theorem ObOk.map {G G' : Gh} {w w' : World} {A : AS} {f : C → C} (hf : ∀ c v, Rc G w c v → Rc G' w' (f c) v) (hi : ∀ x, f (.itr x) = .itr x)
    (hb : ∀ key b, G.mu key = some b → G'.mu key = some b ∧ w'.heap[b]? = w.heap[b]?) (h : ObOk G w A) : ObOk G' w' (A.map f) := by
  intro key cs hk
  obtain ⟨cs0, h0, rfl⟩ := AS.map_ob hk
  obtain ⟨b, o, hm, hh, hr⟩ := h key cs0 h0
  obtain ⟨h1, h2⟩ := hb key b hm
  exact ⟨b, o, h1, h2.trans hh, hr.map hf hi⟩

theorem Rel.map {F : Fra} {G G' : Gh} {A : AS} {ts : Array Value} {cst : List (Array Value)} {w w' : World} (R : Rel F G A ts cst w) {f : C → C} (hf : ∀ c v, Rc G w c v → Rc G' w' (f c) v) (hi : ∀ x, f (.itr x) = .itr x)
    (hb : ∀ key b, G.mu key = some b → G'.mu key = some b ∧ w'.heap[b]? = w.heap[b]?) (hg : GhOk F G' w') : Rel F G' (A.map f) ts cst w' :=
  ⟨R.tm.map_left _ fun a b h => Rv.map hf h, R.stk.map_left _ fun a b h => h.map_left _ fun a b h => Rv.map hf h, R.ob.map hf hi hb, hg⟩

theorem V.map_id (v : V) : v.map id = v := by
  cases v with
  | one c => rfl
  | agg cs => simp [V.map]
  | tup ps => simp [V.map]
  | any => rfl
theorem AS.map_id (A : AS) : A.map id = A := by
  obtain ⟨tm, stk, ob⟩ := A
  have e : V.map id = id := funext V.map_id
  simp [AS.map, e]

theorem Rel.put {F : Fra} {G : Gh} {A : AS} {ts : Array Value} {cst : List (Array Value)} {w : World} (R : Rel F G A ts cst w) {v : V} {u : Value} (h : Rv G w v u) (d : Nat) : Rel F G (A.put (some d) v) (ts.setIfInBounds d u) cst w :=
  ⟨by simpa [AS.put] using R.tm.set d h, R.stk, R.ob, R.gh⟩
theorem Rel.puts {F : Fra} {G : Gh} {A : AS} {a : Act} {cst : List (Array Value)} {w : World} (R : Rel F G A a.tmps cst w) {v : V} {u : Value} (h : Rv G w v u) (dst : Option Tmp) : Rel F G (A.put dst v) (a.put dst u).tmps cst w := by
  cases dst with
  | none => exact R
  | some d => exact R.put h d

/-! ## steps -/
theorem Fra.ok.alloc {F : Fra} {w w' : World} (h : F.ok w) (ho : w'.os = w.os) (ht : w'.tape = w.tape) (hp : w'.output = w.output) (hs : w.heap.size ≤ w'.heap.size) (hb : ∀ k, k < w.heap.size → w'.heap[k]? = w.heap[k]?) : F.ok w' :=
  ⟨ho.trans h.os, ht.trans h.tape, hp.trans h.output, Nat.le_trans h.size hs, fun k hk hx => (hb k (Nat.lt_of_lt_of_le hk h.size)).trans (h.block k hk hx)⟩

/-- A world that is w with one new block behind. -/
structure Grew (w w' : World) : Prop where
  os : w'.os = w.os
  tape : w'.tape = w.tape
  output : w'.output = w.output
  size : w'.heap.size = w.heap.size + 1
  old : ∀ k, k < w.heap.size → w'.heap[k]? = w.heap[k]?
theorem Grew.alloc (w : World) (o : Obj) : Grew w (w.alloc o) := ⟨rfl, rfl, rfl, by simp, fun k hk => heap_alloc_old w o hk⟩
theorem Grew.drewAlloc (w : World) (o : Obj) : Grew w (w.drew.alloc o) := ⟨rfl, rfl, rfl, by simp, fun k hk => heap_alloc_old w.drew o hk⟩
theorem Grew.cell {w w' : World} (g : Grew w w') {b o : Nat} (hb : b < w.heap.size) : w'.cell? ⟨b, o, none⟩ = w.cell? ⟨b, o, none⟩ := by
  simp [World.cell?, g.old b hb]

/-- n cells of a new block are protected; id owns them. -/
def Gh.fresh (G : Gh) (b n id : Nat) : Gh := ⟨fun b' o => G.S b' o ∨ (b' = b ∧ o < n), G.mu, fun j => if j = id then some (b, n) else G.ow j⟩

theorem GhOk.fresh {F : Fra} {G : Gh} {w w' : World} (h : GhOk F G w) (g : Grew w w') (n id : Nat) : GhOk F (G.fresh w.heap.size n id) w' where
  mu := fun key b hb => by
    obtain ⟨h1, h2, h3⟩ := h.mu key b hb
    refine ⟨h1, fun o ho => ?_, by rw [g.size]; omega⟩
    rcases ho with ho | ⟨rfl, _⟩
    · exact h2 o ho
    · omega
  muI := h.muI
  ow := fun i b l hi => by
    simp only [Gh.fresh] at hi ⊢
    split at hi
    · cases hi
      refine ⟨fun o ho hs => ?_, .inl h.fr.size, by rw [g.size]; omega, fun key hk => by have := (h.mu key _ hk).2.2; omega⟩
      rcases hs with hs | ⟨_, hs⟩
      · have := h.sB _ _ hs; omega
      · omega
    · obtain ⟨h1, h2, h3, h4⟩ := h.ow i b l hi
      refine ⟨fun o ho hs => ?_, h2, by rw [g.size]; omega, h4⟩
      rcases hs with hs | ⟨rfl, _⟩
      · exact h1 o ho hs
      · omega
  owI := fun i j b l l' hi hj => by
    simp only [Gh.fresh] at hi hj
    split at hi <;> split at hj
    · rename_i e1 e2; exact e1.trans e2.symm
    · cases hi; have := (h.ow j _ _ hj).2.2.1; omega
    · cases hj; have := (h.ow i _ _ hi).2.2.1; omega
    · exact h.owI i j b l l' hi hj
  sB := fun b o hs => by
    rw [g.size]
    rcases hs with hs | ⟨rfl, _⟩
    · have := h.sB _ _ hs; omega
    · omega
  fr := h.fr.alloc g.os g.tape g.output (by rw [g.size]; omega) g.old
  sub := fun b o hs => .inl (h.sub b o hs)
  sup := fun b o hs => by
    rcases hs with hs | ⟨rfl, _⟩
    · exact h.sup b o hs
    · exact .inr (.inl h.fr.size)
  keep := fun b o hs => (g.cell (h.sB _ _ (h.sub b o hs))).trans (h.keep b o hs)
  fix_ := h.fix_

theorem Goes.fresh {F : Fra} {G : Gh} {w w' : World} (h : GhOk F G w) (g : Grew w w') (n id : Nat) : Goes G (G.fresh w.heap.size n id) w w' none (some id) where
  kept := fun b o hs => ⟨.inl hs, g.cell (h.sB _ _ hs)⟩
  mu := fun _ _ h _ => h
  ow := fun j b l hj hne => by
    have : j ≠ id := fun e => hne (by rw [e])
    exact ⟨by simp [Gh.fresh, this, hj], g.old b (h.ow j b l hj).2.2.1⟩

theorem Rel.fresh {F : Fra} {G : Gh} {A : AS} {ts : Array Value} {cst : List (Array Value)} {w w' : World} (R : Rel F G A ts cst w) (g : Grew w w') (n id : Nat) : Rel F (G.fresh w.heap.size n id) (A.map (C.noOwn id)) ts cst w' :=
  R.map (fun c v h => h.noOwn (Goes.fresh R.gh g n id)) (fun _ => rfl) (fun key b hb => ⟨hb, g.old b (R.gh.mu key b hb).2.2⟩) (R.gh.fresh g n id)

/-- A new object. -/
def Gh.newOb (G : Gh) (key b : Nat) : Gh := ⟨G.S, fun k => if k = key then some b else G.mu k, G.ow⟩
theorem GhOk.newOb {F : Fra} {G : Gh} {w w' : World} (h : GhOk F G w) (g : Grew w w') (key : Nat) (hk0 : F.mu0 key = none) : GhOk F (G.newOb key w.heap.size) w' where
  mu := fun k b hb => by
    simp only [Gh.newOb] at hb ⊢
    split at hb
    · cases hb
      exact ⟨.inl h.fr.size, fun o hs => by have := h.sB _ _ hs; omega, by rw [g.size]; omega⟩
    · obtain ⟨h1, h2, h3⟩ := h.mu k b hb
      exact ⟨h1, h2, by rw [g.size]; omega⟩
  muI := fun k k' b hk hk' => by
    simp only [Gh.newOb] at hk hk'
    split at hk <;> split at hk'
    · rename_i e1 e2; exact e1.trans e2.symm
    · cases hk; have := (h.mu _ _ hk').2.2; omega
    · cases hk'; have := (h.mu _ _ hk).2.2; omega
    · exact h.muI k k' b hk hk'
  ow := fun i b l hi => by
    obtain ⟨h1, h2, h3, h4⟩ := h.ow i b l hi
    refine ⟨h1, h2, by rw [g.size]; omega, fun k hk => ?_⟩
    simp only [Gh.newOb] at hk
    split at hk
    · cases hk; omega
    · exact h4 k hk
  owI := h.owI
  sB := fun b o hs => by rw [g.size]; have := h.sB _ _ hs; omega
  fr := h.fr.alloc g.os g.tape g.output (by rw [g.size]; omega) g.old
  sub := h.sub
  sup := h.sup
  keep := fun b o hs => (g.cell (h.sB _ _ (h.sub b o hs))).trans (h.keep b o hs)
  fix_ := fun k b hb => by
    have : k ≠ key := by rintro rfl; rw [hk0] at hb; cases hb
    simp [Gh.newOb, this, h.fix_ k b hb]
theorem Goes.newOb {F : Fra} {G : Gh} {w w' : World} (h : GhOk F G w) (g : Grew w w') (key : Nat) : Goes G (G.newOb key w.heap.size) w w' (some key) none where
  kept := fun b o hs => ⟨hs, g.cell (h.sB _ _ hs)⟩
  mu := fun k b hk hne => by
    have : k ≠ key := fun e => hne (by rw [e])
    simp [Gh.newOb, this, hk]
  ow := fun j b l hj _ => ⟨hj, g.old b (h.ow j b l hj).2.2.1⟩

theorem getElem?_newOb {α : Type} (l : List (Option α)) (key k : Nat) (x : α) : ((l ++ List.replicate (key + 1 - l.length) none).set key (some x))[k]? = some (some x) → k = key ∨ l[k]? = some (some x) := by
  intro h
  rw [List.getElem?_set] at h
  split at h
  · rename_i e; exact .inl e.symm
  · right
    rw [List.getElem?_append] at h
    split at h
    · exact h
    · rw [List.getElem?_replicate] at h
      split at h
      · cases h
      · cases h
theorem getElem?_newOb' {α : Type} (l : List (Option α)) (key k : Nat) (x y : α) : ((l ++ List.replicate (key + 1 - l.length) none).set key (some x))[k]? = some (some y) → (k = key ∧ y = x) ∨ (k ≠ key ∧ l[k]? = some (some y)) := by
  intro h
  rw [List.getElem?_set] at h
  split at h
  · rename_i e
    split at h
    · cases h; exact .inl ⟨e.symm, rfl⟩
    · cases h
  · rename_i hne
    right
    refine ⟨Ne.symm hne, ?_⟩
    rw [List.getElem?_append] at h
    split at h
    · exact h
    · rw [List.getElem?_replicate] at h
      split at h
      · cases h
      · cases h

theorem noKey_itr (key : Nat) (x : List Int × Int) : C.noKey key (.itr x) = .itr x := by simp [C.noKey, C.hasKey]
theorem Rel.newObj {F : Fra} {G : Gh} {A : AS} {ts : Array Value} {cst : List (Array Value)} {w w' : World} (R : Rel F G A ts cst w) (g : Grew w w') (key : Nat) (hk0 : F.mu0 key = none) {cs : List C} {o : Obj}
    (hh : w'.heap[w.heap.size]? = some o) (hr : ObjOk (G.newOb key w.heap.size) w' cs o) : Rel F (G.newOb key w.heap.size) (A.newOb key cs) ts cst w' := by
  have go := Goes.newOb R.gh g key
  have hf : ∀ c v, Rc G w c v → Rc (G.newOb key w.heap.size) w' (c.noKey key) v := fun c v h => h.noKey go
  refine ⟨R.tm.map_left _ fun a b h => Rv.map hf h, R.stk.map_left _ fun a b h => h.map_left _ fun a b h => Rv.map hf h, ?_, R.gh.newOb g key hk0⟩
  intro k cs' hk
  simp only [AS.newOb] at hk
  rcases getElem?_newOb' _ key k cs cs' hk with ⟨rfl, rfl⟩ | ⟨hne, hk'⟩
  · exact ⟨w.heap.size, o, by simp [Gh.newOb], hh, hr⟩
  · obtain ⟨cs0, h0, rfl⟩ := AS.map_ob hk'
    obtain ⟨b, o', hm, hh', hr'⟩ := R.ob k cs0 h0
    exact ⟨b, o', by simp [Gh.newOb, hne, hm], (g.old b (R.gh.mu k b hm).2.2).trans hh', hr'.map hf (noKey_itr key)⟩
theorem Rel.newOb {F : Fra} {G : Gh} {A : AS} {ts : Array Value} {cst : List (Array Value)} {w w' : World} (R : Rel F G A ts cst w) (g : Grew w w') (key : Nat) (hk0 : F.mu0 key = none) {cs : List C} {cur : Array Value} {el : TypeId}
    (hh : w'.heap[w.heap.size]? = some (.cells cur el (0, 0))) (hr : All2 (Rc (G.newOb key w.heap.size) w') cs cur.toList) : Rel F (G.newOb key w.heap.size) (A.newOb key cs) ts cst w' :=
  R.newObj g key hk0 hh (.inl ⟨cur, el, rfl, hr⟩)

/-! ### one block written -/
structure Wrote (w w' : World) (b : Nat) : Prop where
  os : w'.os = w.os
  tape : w'.tape = w.tape
  output : w'.output = w.output
  size : w'.heap.size = w.heap.size
  other : ∀ k, k ≠ b → w'.heap[k]? = w.heap[k]?
theorem Wrote.setRow (w : World) (b : Nat) (cs : Array Value) : Wrote w (w.setRow b cs) b := ⟨rfl, rfl, rfl, by simp, fun k hk => setRow_other w b k cs hk⟩
theorem Fra.ok.wrote {F : Fra} {w w' : World} {b : Nat} (h : F.ok w) (g : Wrote w w' b) (hm : F.mine b) : F.ok w' :=
  ⟨g.os.trans h.os, g.tape.trans h.tape, g.output.trans h.output, by rw [g.size]; exact h.size, fun k hk hx => by
    have : k ≠ b := by rintro rfl; rcases hm with hm | hm; omega; exact hx hm
    exact (g.other k this).trans (h.block k hk hx)⟩

theorem GhOk.store {F : Fra} {G : Gh} {w w' : World} {b key : Nat} (h : GhOk F G w) (g : Wrote w w' b) (hk : G.mu key = some b) : GhOk F G w' where
  mu := fun k b' hb => by rw [g.size]; exact h.mu k b' hb
  muI := h.muI
  ow := fun i b' l hi => by rw [g.size]; exact h.ow i b' l hi
  owI := h.owI
  sB := fun b' o hs => by rw [g.size]; exact h.sB b' o hs
  fr := h.fr.wrote g (h.mu key b hk).1
  sub := h.sub
  sup := h.sup
  keep := fun b' o hs => by
    have : b' ≠ b := by rintro rfl; exact (h.mu key _ hk).2.1 o (h.sub _ o hs)
    rw [← h.keep b' o hs]
    simp [World.cell?, g.other b' this]
  fix_ := h.fix_
theorem Goes.store {F : Fra} {G : Gh} {w w' : World} {b key : Nat} (h : GhOk F G w) (hk : G.mu key = some b) (g : Wrote w w' b) : Goes G G w w' none none where
  kept := fun b' o hs => ⟨hs, by
    have : b' ≠ b := by rintro rfl; exact (h.mu key _ hk).2.1 o hs
    simp [World.cell?, g.other b' this]⟩
  mu := fun _ _ h _ => h
  ow := fun j b' l hj _ => ⟨hj, g.other b' (by rintro rfl; exact (h.ow j _ _ hj).2.2.2 key hk)⟩
theorem Rel.storeObj {F : Fra} {G : Gh} {A : AS} {ts : Array Value} {cst : List (Array Value)} {w w' : World} (R : Rel F G A ts cst w) {key b : Nat} (hk : G.mu key = some b) (g : Wrote w w' b) {cs : List C} {o : Obj}
    (hh : w'.heap[b]? = some o) (hr : ObjOk G w cs o) : Rel F G { A with ob := A.ob.set key (some cs) } ts cst w' := by
  have go := Goes.store R.gh hk g
  have hf : ∀ c v, Rc G w c v → Rc G w' c v := fun c v h => h.goes go (fun _ e => by cases e) (fun _ e => by cases e)
  have hv : ∀ v u, Rv G w v u → Rv G w' v u := fun v u h => h.goes go
  refine ⟨R.tm.mono fun a _ b => hv a b, R.stk.mono fun a _ b h => h.mono fun a _ b => hv a b, ?_, R.gh.store g hk⟩
  intro k cs' hk'
  simp only [List.getElem?_set] at hk'
  split at hk'
  · rename_i e
    split at hk'
    · cases hk'
      subst e
      exact ⟨b, o, hk, hh, hr.mono hf⟩
    · cases hk'
  · rename_i hne
    obtain ⟨b', o', hm, hh', hr'⟩ := R.ob k cs' hk'
    have : b' ≠ b := by rintro rfl; exact hne (R.gh.muI _ _ _ hk hm)
    exact ⟨b', o', hm, (g.other b' this).trans hh', hr'.mono hf⟩
theorem Rel.store {F : Fra} {G : Gh} {A : AS} {ts : Array Value} {cst : List (Array Value)} {w w' : World} (R : Rel F G A ts cst w) {key b : Nat} (hk : G.mu key = some b) (g : Wrote w w' b) {cs : List C} {cur : Array Value} {el : TypeId}
    (hh : w'.heap[b]? = some (.cells cur el (0, 0))) (hr : All2 (Rc G w) cs cur.toList) : Rel F G { A with ob := A.ob.set key (some cs) } ts cst w' :=
  R.storeObj hk g hh (.inl ⟨cur, el, rfl, hr⟩)

/-- An owned row grows in place. -/
def Gh.more (G : Gh) (b n id : Nat) : Gh := ⟨fun b' o => G.S b' o ∨ (b' = b ∧ o < n), G.mu, fun j => if j = id then some (b, n) else G.ow j⟩
theorem GhOk.more {F : Fra} {G : Gh} {w w' : World} {b l n id : Nat} (h : GhOk F G w) (hi : G.ow id = some (b, l)) (hln : l ≤ n) (g : Wrote w w' b) (hc : ∀ o, o < l → w'.cell? ⟨b, o, none⟩ = w.cell? ⟨b, o, none⟩) : GhOk F (G.more b n id) w' where
  mu := fun key b' hb => by
    obtain ⟨h1, h2, h3⟩ := h.mu key b' hb
    refine ⟨h1, fun o ho => ?_, by rw [g.size]; exact h3⟩
    rcases ho with ho | ⟨rfl, _⟩
    · exact h2 o ho
    · exact (h.ow id _ _ hi).2.2.2 key hb
  muI := h.muI
  ow := fun i b' l' hi' => by
    simp only [Gh.more] at hi' ⊢
    obtain ⟨k1, k2, k3, k4⟩ := h.ow id b l hi
    split at hi'
    · cases hi'
      refine ⟨fun o ho hs => ?_, k2, by rw [g.size]; exact k3, k4⟩
      rcases hs with hs | ⟨_, hs⟩
      · exact k1 o (by omega) hs
      · omega
    · rename_i hne
      obtain ⟨h1, h2, h3, h4⟩ := h.ow i b' l' hi'
      refine ⟨fun o ho hs => ?_, h2, by rw [g.size]; exact h3, h4⟩
      rcases hs with hs | ⟨rfl, _⟩
      · exact h1 o ho hs
      · exact hne (h.owI _ _ _ _ _ hi' hi)
  owI := fun i j b' l1 l2 h1 h2 => by
    simp only [Gh.more] at h1 h2
    split at h1 <;> split at h2
    · rename_i e1 e2; exact e1.trans e2.symm
    · rename_i e1 e2; cases h1; exact absurd (h.owI _ _ _ _ _ h2 hi) e2
    · rename_i e1 e2; cases h2; exact absurd (h.owI _ _ _ _ _ h1 hi) e1
    · exact h.owI i j b' l1 l2 h1 h2
  sB := fun b' o hs => by
    rw [g.size]
    rcases hs with hs | ⟨rfl, _⟩
    · exact h.sB _ _ hs
    · exact (h.ow id _ _ hi).2.2.1
  fr := h.fr.wrote g (h.ow id _ _ hi).2.1
  sub := fun b' o hs => .inl (h.sub b' o hs)
  sup := fun b' o hs => by
    rcases hs with hs | ⟨rfl, _⟩
    · exact h.sup b' o hs
    · exact .inr (h.ow id _ _ hi).2.1
  keep := fun b' o hs => by
    rw [← h.keep b' o hs]
    by_cases e : b' = b
    · subst e
      rcases Nat.lt_or_ge o l with h' | h'
      · exact hc o h'
      · exact absurd (h.sub _ o hs) ((h.ow id _ _ hi).1 o h')
    · simp [World.cell?, g.other b' e]
  fix_ := h.fix_
theorem Goes.more {F : Fra} {G : Gh} {w w' : World} {b l n id : Nat} (h : GhOk F G w) (hi : G.ow id = some (b, l)) (g : Wrote w w' b) (hc : ∀ o, o < l → w'.cell? ⟨b, o, none⟩ = w.cell? ⟨b, o, none⟩) : Goes G (G.more b n id) w w' none (some id) where
  kept := fun b' o hs => ⟨.inl hs, by
    by_cases e : b' = b
    · subst e
      rcases Nat.lt_or_ge o l with h' | h'
      · exact hc o h'
      · exact absurd hs ((h.ow id _ _ hi).1 o h')
    · simp [World.cell?, g.other b' e]⟩
  mu := fun _ _ h _ => h
  ow := fun j b' l' hj hne => by
    have hj' : j ≠ id := fun e => hne (by rw [e])
    exact ⟨by simp [Gh.more, hj', hj], g.other b' (by rintro rfl; exact hj' (h.owI _ _ _ _ _ hj hi))⟩
theorem Rel.more {F : Fra} {G : Gh} {A : AS} {ts : Array Value} {cst : List (Array Value)} {w w' : World} (R : Rel F G A ts cst w) {b l n id : Nat} (hi : G.ow id = some (b, l)) (hln : l ≤ n) (g : Wrote w w' b)
    (hc : ∀ o, o < l → w'.cell? ⟨b, o, none⟩ = w.cell? ⟨b, o, none⟩) : Rel F (G.more b n id) (A.map (C.noOwn id)) ts cst w' :=
  R.map (fun c v h => h.noOwn (Goes.more R.gh hi g hc)) (fun _ => rfl) (fun key b' hb => ⟨hb, g.other b' (by rintro rfl; exact (R.gh.ow id _ _ hi).2.2.2 key hb)⟩) (R.gh.more hi hln g hc)

/-- Only orders were drawn. -/
theorem Goes.drew (G : Gh) (w : World) : Goes G G w { w with drawn := w.drawn + 1 } none none := ⟨fun _ _ h => ⟨h, rfl⟩, fun _ _ h _ => h, fun _ _ _ h _ => ⟨h, rfl⟩⟩
theorem GhOk.drew {F : Fra} {G : Gh} {w : World} (h : GhOk F G w) : GhOk F G { w with drawn := w.drawn + 1 } := ⟨h.mu, h.muI, h.ow, h.owI, h.sB, ⟨h.fr.os, h.fr.tape, h.fr.output, h.fr.size, h.fr.block⟩, h.sub, h.sup, h.keep, h.fix_⟩
theorem Rel.drew {F : Fra} {G : Gh} {A : AS} {ts : Array Value} {cst : List (Array Value)} {w : World} (R : Rel F G A ts cst w) : Rel F G A ts cst { w with drawn := w.drawn + 1 } := by
  have := R.map (f := id) (fun c v h => h.goes (Goes.drew G w) (fun _ e => by cases e) (fun _ e => by cases e)) (fun _ => rfl) (fun key b hb => ⟨hb, rfl⟩) R.gh.drew
  rwa [AS.map_id] at this

end Go.Proofs.Ytnppjkijhcampaa.Sym
