/- The first part of the abstract interpreter: data types, abstract values, and how they stand for the model's values in a world. -/
import Derived.Orders
import Derived.Deep.LoopGhost
import Derived.Laws.AppendOwn
import Derived.Laws.NewBlocks
import Derived.KernelRfl

namespace Go.Proofs.Ytnppjkijhcampaa.Sym
open Go

/-! ## Data -/

inductive Ty where
  | int (k : IntKind) | bool | str | sl (e : Nat) (t : Ty) | unit | prod (a b : Ty)
  deriving DecidableEq

@[reducible] def Ty.den : Ty → Type
  | .int _ => Int
  | .bool => Bool
  | .str => List Int
  | .sl _ t => List t.den
  | .unit => Unit
  | .prod a b => a.den × b.den

def Ty.size : Ty → Nat
  | .int _ => 1
  | .bool => 1
  | .str => 1
  | .sl _ _ => 1
  | .unit => 0
  | .prod a b => a.size + b.size

/-- A struct. -/
def Ty.isProd : Ty → Bool
  | .unit => true
  | .prod _ _ => true
  | _ => false
def Ty.zero : (t : Ty) → t.den
  | .int _ => (0 : Int)
  | .bool => false
  | .str => ([] : List Int)
  | .sl _ t => ([] : List t.den)
  | .unit => ()
  | .prod a b => (a.zero, b.zero)

def inR (k : IntKind) (n : Int) : Prop := k.min ≤ n ∧ n ≤ k.max
def mkStr (s : List Int) : ByteArray := ⟨(s.map fun c => UInt8.ofNat c.toNat).toArray⟩
def unStr (b : ByteArray) : List Int := b.data.toList.map fun c => (c.toNat : Int)
def byteR (s : List Int) : Prop := ∀ c ∈ s, 0 ≤ c ∧ c < 256

theorem inR_wrap (k : IntKind) (n : Int) : inR k (k.wrap n) := by
  unfold inR
  cases k <;> simp [IntKind.wrap, IntKind.min, IntKind.max, IntKind.signed, IntKind.bits] <;> (try split) <;> omega

theorem unStr_byteR (b : ByteArray) : byteR (unStr b) := by
  intro c hc
  simp only [unStr, List.mem_map] at hc
  obtain ⟨u, _, rfl⟩ := hc
  have := u.toNat_lt
  omega
theorem mkStr_unStr (b : ByteArray) : mkStr (unStr b) = b := by
  apply ByteArray.ext
  apply Array.ext'
  simp [mkStr, unStr, List.map_map, Function.comp_def]
theorem unStr_mkStr {s : List Int} (h : byteR s) : unStr (mkStr s) = s := by
  simp only [unStr, mkStr, List.map_map]
  conv => rhs; rw [← List.map_id s]
  refine List.map_congr_left fun c hc => ?_
  have := h c hc
  simp only [Function.comp_apply, id]
  rw [UInt8.toNat_ofNat', Nat.mod_eq_of_lt (by omega)]
  omega
theorem mkStr_size (s : List Int) : (mkStr s).size = s.length := by simp [mkStr, ByteArray.size]
theorem mkStr_inj {s t : List Int} (hs : byteR s) (ht : byteR t) (h : mkStr s = mkStr t) : s = t := by
  rw [← unStr_mkStr hs, ← unStr_mkStr ht, h]

/-! ## Lists side by side -/
def All2 {α β : Type} (R : α → β → Prop) : List α → List β → Prop
  | [], [] => True
  | a :: as, b :: bs => R a b ∧ All2 R as bs
  | _, _ => False
theorem All2.length {α β : Type} {R : α → β → Prop} : ∀ {as : List α} {bs : List β}, All2 R as bs → as.length = bs.length
  | [], [], _ => rfl
  | _ :: _, _ :: _, h => by simp [All2.length h.2]
  | [], _ :: _, h => h.elim
  | _ :: _, [], h => h.elim
theorem All2.mono {α β : Type} {R R' : α → β → Prop} : ∀ {as : List α} {bs : List β}, (∀ a ∈ as, ∀ b, R a b → R' a b) → All2 R as bs → All2 R' as bs
  | [], [], _, _ => trivial
  | _ :: _, _ :: _, f, h => ⟨f _ (by simp) _ h.1, All2.mono (fun a ha b => f a (by simp [ha]) b) h.2⟩
  | [], _ :: _, _, h => h.elim
  | _ :: _, [], _, h => h.elim
theorem All2.get {α β : Type} {R : α → β → Prop} : ∀ {as : List α} {bs : List β} {i : Nat} {a : α}, All2 R as bs → as[i]? = some a → ∃ b, bs[i]? = some b ∧ R a b
  | _ :: _, b :: _, 0, _, h, e => ⟨b, rfl, by simp at e; exact e ▸ h.1⟩
  | _ :: _, _ :: _, i + 1, _, h, e => by simpa using All2.get (i := i) h.2 (by simpa using e)
  | [], [], _, _, _, e => by simp at e
  | [], _ :: _, _, _, h, _ => h.elim
  | _ :: _, [], _, _, h, _ => h.elim
theorem All2.append {α β : Type} {R : α → β → Prop} : ∀ {as : List α} {bs : List β} {as' : List α} {bs' : List β}, All2 R as bs → All2 R as' bs' → All2 R (as ++ as') (bs ++ bs')
  | [], [], _, _, _, h' => h'
  | _ :: _, _ :: _, _, _, h, h' => ⟨h.1, All2.append h.2 h'⟩
  | [], _ :: _, _, _, h, _ => h.elim
  | _ :: _, [], _, _, h, _ => h.elim
theorem All2.take {α β : Type} {R : α → β → Prop} : ∀ {as : List α} {bs : List β} (n : Nat), All2 R as bs → All2 R (as.take n) (bs.take n)
  | [], [], _, _ => by simp [All2]
  | _ :: _, _ :: _, 0, _ => by simp [All2]
  | _ :: _, _ :: _, n + 1, h => ⟨h.1, All2.take n h.2⟩
  | [], _ :: _, _, h => h.elim
  | _ :: _, [], _, h => h.elim
theorem All2.drop {α β : Type} {R : α → β → Prop} : ∀ {as : List α} {bs : List β} (n : Nat), All2 R as bs → All2 R (as.drop n) (bs.drop n)
  | [], [], _, _ => by simp [All2]
  | _ :: _, _ :: _, 0, h => h
  | _ :: _, _ :: _, n + 1, h => All2.drop n h.2
  | [], _ :: _, _, h => h.elim
  | _ :: _, [], _, h => h.elim
theorem All2.set {α β : Type} {R : α → β → Prop} : ∀ {as : List α} {bs : List β} (n : Nat) {a : α} {b : β}, All2 R as bs → R a b → All2 R (as.set n a) (bs.set n b)
  | [], [], _, _, _, _, _ => by simp [All2]
  | _ :: _, _ :: _, 0, _, _, h, h' => ⟨h', h.2⟩
  | _ :: _, _ :: _, n + 1, _, _, h, h' => ⟨h.1, All2.set n h.2 h'⟩
  | [], _ :: _, _, _, _, h, _ => h.elim
  | _ :: _, [], _, _, _, h, _ => h.elim
theorem All2.map_left {α β γ : Type} {R : α → β → Prop} {R' : γ → β → Prop} (f : α → γ) : ∀ {as : List α} {bs : List β}, (∀ a b, R a b → R' (f a) b) → All2 R as bs → All2 R' (as.map f) bs
  | [], [], _, _ => trivial
  | _ :: _, _ :: _, g, h => ⟨g _ _ h.1, All2.map_left f g h.2⟩
  | [], _ :: _, _, h => h.elim
  | _ :: _, [], _, h => h.elim

/-! ## Typed data in memory -/

def At (S : Nat → Nat → Prop) (w : World) (b o : Nat) (cs : List Value) : Prop :=
  ∀ j v, cs[j]? = some v → S b (o + j) ∧ w.cell? ⟨b, o + j, none⟩ = some v

def Rt (S : Nat → Nat → Prop) (w : World) : (t : Ty) → t.den → List Value → Prop
  | .int k, n, cs => cs = [.int k n] ∧ inR k n
  | .bool, b, cs => cs = [.bool b]
  | .str, s, cs => cs = [.string (mkStr s)] ∧ byteR s ∧ s.length ≤ maxLen
  | .sl _ t, xs, cs => ∃ A cap, cs = [.slice A xs.length cap] ∧ xs.length ≤ cap ∧ cap ≤ maxLen ∧
      (xs ≠ [] → ∃ b o, A = some ⟨b, o, none⟩ ∧ ∀ i x, xs[i]? = some x → ∃ c, Rt S w t x c ∧ At S w b (o + i * t.size) c)
  | .unit, _, cs => cs = []
  | .prod a b, x, cs => ∃ c1 c2, cs = c1 ++ c2 ∧ Rt S w a x.1 c1 ∧ Rt S w b x.2 c2

def Row (S : Nat → Nat → Prop) (w : World) (t : Ty) (A : Option Addr) (xs : List t.den) : Prop :=
  xs ≠ [] → ∃ b o, A = some ⟨b, o, none⟩ ∧ ∀ i x, xs[i]? = some x → ∃ c, Rt S w t x c ∧ At S w b (o + i * t.size) c

/-- What S protects is as it was. -/
def Kept (S S' : Nat → Nat → Prop) (w w' : World) : Prop :=
  ∀ b o, S b o → S' b o ∧ w'.cell? ⟨b, o, none⟩ = w.cell? ⟨b, o, none⟩
theorem Kept.refl (S : Nat → Nat → Prop) (w : World) : Kept S S w w := fun _ _ h => ⟨h, rfl⟩
theorem Kept.trans {S S' S'' : Nat → Nat → Prop} {w w' w'' : World} (h : Kept S S' w w') (h' : Kept S' S'' w' w'') : Kept S S'' w w'' :=
  fun b o hs => ⟨(h' b o (h b o hs).1).1, (h' b o (h b o hs).1).2.trans (h b o hs).2⟩

theorem At.kept {S S' : Nat → Nat → Prop} {w w' : World} {b o : Nat} {cs : List Value} (k : Kept S S' w w') (h : At S w b o cs) : At S' w' b o cs :=
  fun j v hv => ⟨(k _ _ (h j v hv).1).1, (k _ _ (h j v hv).1).2.trans (h j v hv).2⟩
theorem Rt.kept {S S' : Nat → Nat → Prop} {w w' : World} (k : Kept S S' w w') : ∀ (t : Ty) (x : t.den) (cs : List Value), Rt S w t x cs → Rt S' w' t x cs
  | .int _, _, _, h => h
  | .bool, _, _, h => h
  | .str, _, _, h => h
  | .unit, _, _, h => h
  | .prod a b, _, _, ⟨c1, c2, e, h1, h2⟩ => ⟨c1, c2, e, Rt.kept k a _ _ h1, Rt.kept k b _ _ h2⟩
  | .sl _ t, _, _, ⟨A, cap, e, h1, h2, h3⟩ => ⟨A, cap, e, h1, h2, fun hne => by
      obtain ⟨b, o, ea, hh⟩ := h3 hne
      exact ⟨b, o, ea, fun i x hx => let ⟨c, hc, ha⟩ := hh i x hx; ⟨c, Rt.kept k t x c hc, ha.kept k⟩⟩⟩
theorem Row.kept {S S' : Nat → Nat → Prop} {w w' : World} (k : Kept S S' w w') {t : Ty} {A : Option Addr} {xs : List t.den} (h : Row S w t A xs) : Row S' w' t A xs := by
  intro hne
  obtain ⟨b, o, ea, hh⟩ := h hne
  exact ⟨b, o, ea, fun i x hx => let ⟨c, hc, ha⟩ := hh i x hx; ⟨c, Rt.kept k t x c hc, ha.kept k⟩⟩
theorem Rt.len {S : Nat → Nat → Prop} {w : World} : ∀ (t : Ty) (x : t.den) (cs : List Value), Rt S w t x cs → cs.length = t.size
  | .int _, _, _, h => by rw [h.1]; rfl
  | .bool, _, _, h => by rw [h]; rfl
  | .str, _, _, h => by rw [h.1]; rfl
  | .unit, _, _, h => by rw [h]; rfl
  | .prod a b, _, _, ⟨c1, c2, e, h1, h2⟩ => by rw [e, List.length_append, Rt.len a _ _ h1, Rt.len b _ _ h2]; rfl
  | .sl _ _, _, _, ⟨A, cap, e, _⟩ => by rw [e]; rfl
theorem Rt.row {S : Nat → Nat → Prop} {w : World} {e : Nat} {t : Ty} {xs : List t.den} {A : Option Addr} {n cap : Nat} (h : Rt S w (.sl e t) xs [.slice A n cap]) :
    n = xs.length ∧ xs.length ≤ cap ∧ cap ≤ maxLen ∧ Row S w t A xs := by
  obtain ⟨A', cap', e', h1, h2, h3⟩ := h
  simp only [List.cons.injEq, Value.slice.injEq, and_true] at e'
  obtain ⟨rfl, rfl, rfl⟩ := e'
  exact ⟨rfl, h1, h2, h3⟩

/-- No cell's value is a struct or a tuple. -/
theorem Rt.cell {S : Nat → Nat → Prop} {w : World} : ∀ (t : Ty) (x : t.den) (cs : List Value), Rt S w t x cs → ∀ v ∈ cs, v.oneCell' = true
  | .int _, _, _, h => by rw [h.1]; simp [Value.oneCell']
  | .bool, _, _, h => by rw [h]; simp [Value.oneCell']
  | .str, _, _, h => by rw [h.1]; simp [Value.oneCell']
  | .unit, _, _, h => by rw [h]; simp
  | .prod a b, _, _, ⟨c1, c2, e, h1, h2⟩ => by
      rw [e]; intro v hv
      rcases List.mem_append.1 hv with h | h
      · exact Rt.cell a _ _ h1 v h
      · exact Rt.cell b _ _ h2 v h
  | .sl _ _, _, _, ⟨A, cap, e, _⟩ => by rw [e]; simp [Value.oneCell']

/-! ## Abstract values -/

inductive Cp where
  | ptr (key off : Nat)
  | dat (t : Ty) (x : t.den)

inductive C where
  | int (k : IntKind) (n : Int)
  | bool (b : Bool)
  | str (s : List Int)
  | lst (e : Nat) (t : Ty) (xs : List t.den) (own : Nat)
  | nils
  | ptr (key off : Nat)
  | ro (t : Ty) (x : t.den)
  | nilp
  | fn (f : Nat) (caps : List Cp)
  | ifc (T : Nat) (t : Ty) (x : t.den)
  | nilif
  | nilfn
  | top
  | itr (x : List Int × Int)

inductive V where
  | one (c : C)
  | agg (cs : List C)
  | tup (vs : List (Bool × List C))
  | any

/-- S: what is protected; mu: where an abstract object lies; ow: an owned row's block and how many of its cells are protected. -/
structure Gh where
  S : Nat → Nat → Prop
  mu : Nat → Option Nat
  ow : Nat → Option (Nat × Nat)

def Rcp (G : Gh) (w : World) : Cp → Value → Prop
  | .ptr key off, v => ∃ b, G.mu key = some b ∧ v = .pointer (some ⟨b, off, none⟩)
  | .dat t x, v => Rt G.S w t x [v]

/-- An owned row: nil, or at the head of its block. -/
def Own (G : Gh) (w : World) (own n : Nat) (A : Option Addr) (cap size : Nat) : Prop :=
  own = 0 ∨ (A = none ∧ cap = 0) ∨ ∃ b cur el, A = some ⟨b, 0, none⟩ ∧ G.ow own = some (b, n * size) ∧ w.heap[b]? = some (.cells cur el (0, 0)) ∧ cur.size = cap * size

def Rc (G : Gh) (w : World) : C → Value → Prop
  | .int k n, v => v = .int k n ∧ inR k n
  | .bool b, v => v = .bool b
  | .str s, v => v = .string (mkStr s) ∧ byteR s ∧ s.length ≤ maxLen
  | .lst _ t xs own, v => ∃ A cap, v = .slice A xs.length cap ∧ xs.length ≤ cap ∧ cap ≤ maxLen ∧ Row G.S w t A xs ∧ Own G w own xs.length A cap t.size
  | .nils, v => v = .slice none 0 0
  | .ptr key off, v => ∃ b, G.mu key = some b ∧ v = .pointer (some ⟨b, off, none⟩)
  | .ro t x, v => ∃ b o cs, v = .pointer (some ⟨b, o, none⟩) ∧ Rt G.S w t x cs ∧ At G.S w b o cs
  | .nilp, v => v = .pointer none
  | .fn f caps, v => ∃ vs, v = .func (.func f) #[] vs ∧ All2 (Rcp G w) caps vs.toList
  | .ifc T t x, v => ∃ u, v = .iface T u ∧ Rt G.S w t x u.cells.toList ∧ (t.isProd = true → ∃ vs, u = .agg vs)
  | .nilif, v => v = .nilIface
  | .nilfn, v => v = .nilFunc
  | .top, v => v.oneCell' = true
  | .itr _, _ => False

def RcOne (G : Gh) (w : World) (p : Bool × List C) (u : Value) : Prop :=
  (p.1 = true ∧ ∃ vs, u = .agg vs ∧ All2 (Rc G w) p.2 vs.toList) ∨ (p.1 = false ∧ ∃ c, p.2 = [c] ∧ Rc G w c u)

def Rv (G : Gh) (w : World) : V → Value → Prop
  | .one c, v => Rc G w c v
  | .agg cs, v => ∃ vs, v = .agg vs ∧ All2 (Rc G w) cs vs.toList
  | .tup ps, v => ∃ us, v = .tuple us ∧ All2 (RcOne G w) ps us.toList
  | .any, _ => True

/-! ### what an abstract value leans on -/
def Cp.hasKey (k : Nat) : Cp → Bool
  | .ptr key _ => key == k
  | .dat _ _ => false
def C.hasKey (k : Nat) : C → Bool
  | .ptr key _ => key == k
  | .fn _ caps => caps.any (·.hasKey k)
  | _ => false
def C.hasOwn (i : Nat) : C → Bool
  | .lst _ _ _ own => own == i
  | _ => false
/-- Forget the object k. -/
def C.noKey (k : Nat) (c : C) : C := if c.hasKey k then .top else c
/-- Forget that i is owned. -/
def C.noOwn (i : Nat) : C → C
  | .lst e t xs own => if own == i then .lst e t xs 0 else .lst e t xs own
  | c => c
def V.map (f : C → C) : V → V
  | .one c => .one (f c)
  | .agg cs => .agg (cs.map f)
  | .tup ps => .tup (ps.map fun p => (p.1, p.2.map f))
  | .any => .any

/-- How a ghost and a world go on: objects but k, owned rows but i, and all that is protected. -/
structure Goes (G G' : Gh) (w w' : World) (k i : Option Nat) : Prop where
  kept : Kept G.S G'.S w w'
  mu : ∀ key b, G.mu key = some b → some key ≠ k → G'.mu key = some b
  ow : ∀ j b l, G.ow j = some (b, l) → some j ≠ i → G'.ow j = some (b, l) ∧ w'.heap[b]? = w.heap[b]?

theorem Goes.refl (G : Gh) (w : World) : Goes G G w w none none := ⟨.refl _ _, fun _ _ h _ => h, fun _ _ _ h _ => ⟨h, rfl⟩⟩

theorem Rcp.goes {G G' : Gh} {w w' : World} {k i : Option Nat} (g : Goes G G' w w' k i) {c : Cp} {v : Value} (hk : ∀ key, k = some key → c.hasKey key = false) (h : Rcp G w c v) : Rcp G' w' c v := by
  cases c with
  | ptr key off =>
    obtain ⟨b, hb, e⟩ := h
    exact ⟨b, g.mu key b hb (fun e => by have := hk key e.symm; simp [Cp.hasKey] at this), e⟩
  | dat t x => exact Rt.kept g.kept t x _ h

theorem Rc.goes {G G' : Gh} {w w' : World} {k i : Option Nat} (g : Goes G G' w w' k i) {c : C} {v : Value} (hk : ∀ key, k = some key → c.hasKey key = false) (hi : ∀ j, i = some j → c.hasOwn j = false) (h : Rc G w c v) : Rc G' w' c v := by
  cases c with
  | lst e t xs own =>
    obtain ⟨A, cap, e, h1, h2, h3, h4⟩ := h
    refine ⟨A, cap, e, h1, h2, h3.kept g.kept, ?_⟩
    rcases h4 with h4 | h4 | ⟨b, cur, el, ea, ho, hh, hs⟩
    · exact .inl h4
    · exact .inr (.inl h4)
    · have := g.ow own b _ ho (fun e => by have := hi own e.symm; simp [C.hasOwn] at this)
      exact .inr (.inr ⟨b, cur, el, ea, this.1, this.2.trans hh, hs⟩)
  | ptr key off =>
    obtain ⟨b, hb, e⟩ := h
    exact ⟨b, g.mu key b hb (fun e => by have := hk key e.symm; simp [C.hasKey] at this), e⟩
  | ro t x =>
    obtain ⟨b, o, cs, e, h1, h2⟩ := h
    exact ⟨b, o, cs, e, Rt.kept g.kept t x cs h1, h2.kept g.kept⟩
  | fn f caps =>
    obtain ⟨vs, e, hv⟩ := h
    refine ⟨vs, e, hv.mono fun c hc v hcv => hcv.goes g fun key hkey => ?_⟩
    have := hk key hkey
    simp only [C.hasKey, List.any_eq_false] at this
    simpa using this c hc
  | ifc T t x =>
    obtain ⟨u, e, hu, ha⟩ := h
    exact ⟨u, e, Rt.kept g.kept t x _ hu, ha⟩
  | _ => exact h

theorem Rc.cell {G : Gh} {w : World} {c : C} {v : Value} (h : Rc G w c v) : v.oneCell' = true := by
  cases c with
  | int k n => rw [h.1]; rfl
  | bool b => rw [show v = .bool b from h]; rfl
  | str s => rw [h.1]; rfl
  | lst e t xs own => obtain ⟨A, cap, e, _⟩ := h; rw [e]; rfl
  | nils => rw [show v = _ from h]; rfl
  | ptr k o => obtain ⟨b, _, e⟩ := h; rw [e]; rfl
  | ro t x => obtain ⟨b, o, cs, e, _⟩ := h; rw [e]; rfl
  | nilp => rw [show v = _ from h]; rfl
  | fn f cs => obtain ⟨vs, e, _⟩ := h; rw [e]; rfl
  | ifc T t x => obtain ⟨u, e, _⟩ := h; rw [e]; rfl
  | nilif => rw [show v = _ from h]; rfl
  | nilfn => rw [show v = _ from h]; rfl
  | top => exact h
  | itr x => exact h.elim
theorem Rc.noKey {G G' : Gh} {w w' : World} {key : Nat} (g : Goes G G' w w' (some key) none) {c : C} {v : Value} (h : Rc G w c v) : Rc G' w' (c.noKey key) v := by
  unfold C.noKey
  split
  · exact h.cell
  · rename_i hk
    exact h.goes g (fun k e => by cases e; simpa using hk) (fun _ e => by cases e)
theorem Rc.noOwn {G G' : Gh} {w w' : World} {j : Nat} (g : Goes G G' w w' none (some j)) {c : C} {v : Value} (h : Rc G w c v) : Rc G' w' (c.noOwn j) v := by
  cases c with
  | lst e t xs own =>
    simp only [C.noOwn]
    split
    · obtain ⟨A, cap, e, h1, h2, h3, h4⟩ := h
      exact ⟨A, cap, e, h1, h2, h3.kept g.kept, .inl rfl⟩
    · rename_i hn
      exact h.goes g (fun k e => by cases e) (fun k e => by cases e; simpa [C.hasOwn] using hn)
  | _ => exact Rc.goes g (fun k e => by cases e) (fun k e => by cases e; simp [C.hasOwn, C.noOwn]) h

theorem RcOne.map {G G' : Gh} {w w' : World} {f : C → C} (hf : ∀ c v, Rc G w c v → Rc G' w' (f c) v) {p : Bool × List C} {u : Value} (h : RcOne G w p u) : RcOne G' w' (p.1, p.2.map f) u := by
  rcases h with ⟨h1, vs, e, h2⟩ | ⟨h1, c, e, h2⟩
  · exact .inl ⟨h1, vs, e, h2.map_left f fun a b => hf a b⟩
  · exact .inr ⟨h1, f c, by simp [e], hf _ _ h2⟩
theorem Rv.map {G G' : Gh} {w w' : World} {f : C → C} (hf : ∀ c v, Rc G w c v → Rc G' w' (f c) v) {x : V} {v : Value} (h : Rv G w x v) : Rv G' w' (x.map f) v := by
  cases x with
  | one c => exact hf _ _ h
  | agg cs =>
    obtain ⟨vs, e, hv⟩ := h
    exact ⟨vs, e, hv.map_left f fun a b => hf a b⟩
  | tup ps =>
    obtain ⟨us, e, hv⟩ := h
    exact ⟨us, e, hv.map_left _ fun a b h => RcOne.map hf h⟩
  | any => trivial
theorem Rv.goes {G G' : Gh} {w w' : World} (g : Goes G G' w w' none none) {x : V} {v : Value} (h : Rv G w x v) : Rv G' w' x v := by
  have hf : ∀ c v, Rc G w c v → Rc G' w' c v := fun c v h => h.goes g (fun _ e => by cases e) (fun _ e => by cases e)
  have := Rv.map (f := id) hf h
  cases x <;> simpa [V.map] using this

end Go.Proofs.Ytnppjkijhcampaa.Sym
