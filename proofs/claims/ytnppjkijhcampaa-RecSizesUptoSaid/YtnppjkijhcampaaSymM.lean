/- Contracts: what a function makes of data, of the objects that its pointers reach, and how a caller uses them. -/
import Derived.Test.YtnppjkijhcampaaSymL

namespace Go.Proofs.Ytnppjkijhcampaa.Sym
open Go
noncomputable section

/-- The shape of an argument, a result, a cell: data (a struct's or one cell's; owned or not), or a pointer to object n. -/
inductive Sh where
  | dat (t : Ty) (agg own : Bool)
  | ptr (n off : Nat)
@[reducible] def Sh.den : Sh → Type
  | .dat t _ _ => t.den
  | .ptr _ _ => Unit
@[reducible] def DenL : List Sh → Type
  | [] => Unit
  | s :: ss => s.den × DenL ss
@[reducible] def DenO : List (List Sh) → Type
  | [] => Unit
  | o :: os => DenL o × DenO os

abbrev Bn := List (Option Nat)
def Bn.at (β : Bn) (n : Nat) : Option Nat := β.getD n none
def bnd (β : Bn) (n key : Nat) : Option Bn := match β[n]? with
  | some none => bif β.any (· == some key) then none else some (β.set n (some key))
  | some (some k) => bif k == key then some β else none
  | none => none

def ownOf : V → Nat
  | .one (.lst _ _ _ o) => o
  | _ => 0
def mV : (s : Sh) → V → Bn → Option (s.den × Bn)
  | .dat t agg own, v, β => match castV t v with
    | some x => bif (v.isAgg == agg) && (!own || !(ownOf v == 0)) then some (x, β) else none
    | none => none
  | .ptr n off, v, β => match v with
    | .one (.ptr k o) => bif o == off then match bnd β n k with
      | some β' => some ((), β')
      | none => none
      else none
    | _ => none
def mVs : (ss : List Sh) → List V → Bn → Option (DenL ss × Bn)
  | [], [], β => some ((), β)
  | s :: ss, v :: vs, β => match mV s v β with
    | some (x, β') => match mVs ss vs β' with
      | some (xs, β'') => some ((x, xs), β'')
      | none => none
    | none => none
  | _, _, _ => none
def mOb (ob : List (Option (List C))) : (os : List (List Sh)) → (i : Nat) → Bn → Option (DenO os × Bn)
  | [], _, β => some ((), β)
  | o :: os, i, β => match β.at i with
    | some k => match ob.getD k none with
      | some cs => match mVs o (cs.map .one) β with
        | some (x, β') => match mOb ob os (i + 1) β' with
          | some (xs, β'') => some ((x, xs), β'')
          | none => none
        | none => none
      | none => none
    | none => none

/-- The owned ones: the new id of each, and the id that it had. -/
def owV : Sh → V → Nat → List (Nat × Nat)
  | .dat _ _ own, v, id => bif own then [(id, ownOf v)] else []
  | .ptr _ _, _, _ => []
def owVs (f : Nat → Nat) : List Sh → List V → Nat → List (Nat × Nat)
  | s :: ss, v :: vs, i => owV s v (f i) ++ owVs f ss vs (i + 1)
  | _, _, _ => []
/-- The objects' keys are β's; the ids come by the keys of β'. -/
def owOb (ob : List (Option (List C))) (β β' : Bn) : List (List Sh) → Nat → List (Nat × Nat)
  | [], _ => []
  | o :: os, i => match β.at i, β'.at i with
    | some k, some k' => owVs (idCell k') o (((ob.getD k none).getD []).map .one) 0 ++ owOb ob β β' os (i + 1)
    | _, _ => []

def mkV (β : Bn) : (s : Sh) → s.den → Nat → V
  | .dat t agg own, x, id => match own && !agg, t, x with
    | true, .sl e t', x => .one (.lst e t' x id)
    | _, t, x => bif agg then .agg (toCs t x) else match toCs t x with
      | [c] => .one c
      | _ => .any
  | .ptr n off, _, _ => match β.at n with
    | some k => .one (.ptr k off)
    | none => .any
def mkVs (β : Bn) (f : Nat → Nat) : (ss : List Sh) → DenL ss → Nat → List V
  | [], _, _ => []
  | s :: ss, x, i => mkV β s x.1 (f i) :: mkVs β f ss x.2 (i + 1)
/-- Objects' cells are laid under the keys of β. -/
def setOb (β : Bn) : (os : List (List Sh)) → DenO os → Nat → List (Option (List C)) → List (Option (List C))
  | [], _, _, ob => ob
  | o :: os, x, i, ob => match β.at i with
    | some k => setOb β os x.2 (i + 1) (ob.set k (some ((mkVs β (idCell k) o x.1 0).flatMap V.cells)))
    | none => ob

inductive Out (α β : Type) where
  | ret (a : α)
  | pan (b : β)
@[reducible] def PanDen : Option (Nat × Ty) → Type
  | some p => p.2.den
  | none => Empty

structure Io where
  args : List Sh
  obs : List (List Sh)
  nobs : List (List Sh)
  res : List Sh
  pan : Option (Nat × Ty)
abbrev Io.In (io : Io) : Type := DenL io.args × DenO io.obs
abbrev Io.Res (io : Io) : Type := Out (DenL io.res × DenO (io.obs ++ io.nobs)) (PanDen io.pan)

def bnId (n m : Nat) : Bn := (List.range n).map some ++ List.replicate m none
/-- The state in which the function begins. -/
def Io.start (io : Io) (nt : Nat) (d : io.In) : AS :=
  ⟨mkVs (bnId io.obs.length 0) (idTmp 0) io.args d.1 0 ++ List.replicate (nt - io.args.length) .any, [], setOb (bnId io.obs.length 0) io.obs d.2 0 (List.replicate io.obs.length none)⟩
def resV (tt : TT) (A : AS) : ResultVar → V
  | .tmp t => A.get t
  | .cell t ty => match A.get t with
    | .one (.ptr k o) => match A.ob[k]? with
      | some (some cs) => bif !cs.any C.isItr && decide (o + (tt.at ty).size ≤ cs.length) then (partV tt ty ((cs.drop o).take (tt.at ty).size)).getD .any else .any
      | _ => .any
    | _ => .any
def finRet (tt : TT) (io : Io) (fn : Func) (A : AS) : Option io.Res :=
  match mVs io.res (fn.results.toList.map (resV tt A)) (bnId io.obs.length io.nobs.length) with
  | some (r, β) => match mOb A.ob (io.obs ++ io.nobs) 0 β with
    | some (o, β') => bif nodupB ((owVs id io.res (fn.results.toList.map (resV tt A)) 0 ++ owOb A.ob β' β' (io.obs ++ io.nobs) 0).map (·.2)) then some (.ret (r, o)) else none
    | none => none
  | none => none
def panOf : (p : Option (Nat × Ty)) → V → Option (PanDen p)
  | some (T, t), .one (.ifc T' t' x) => if h : T' = T ∧ t' = t then some (h.2 ▸ x) else none
  | _, _ => none
def panV : (p : Option (Nat × Ty)) → PanDen p → V
  | some (T, t), x => .one (.ifc T t x)
  | none, x => nomatch x
/-- What the function has come to. -/
def Io.fin (tt : TT) (io : Io) (fn : Func) (ex : Ex) (A : AS) : Option io.Res :=
  match ex with
  | .ret => finRet tt io fn A
  | .normal => finRet tt io fn A
  | .panic v => match panOf io.pan v with
    | some x => some (.pan x)
    | none => none
  | _ => none

def lrOf (fn : Func) : Nat := fn.results.toList.foldl (fun l r => match r with | .tmp t => l ||| 2 ^ t | .cell t _ => l ||| 2 ^ t) 0
def Io.run (tt : TT) (hd : Hd) (okDraw : Dr) (lp : Lp) (io : Io) (fn : Func) (d : io.In) : Option io.Res :=
  match fn.body with
  | some c => ev tt hd okDraw lp io.obs.length (lrOf fn) c (lrOf fn) [] (io.start fn.ntmps d) (io.fin tt fn)
  | none => none

/-- What a contract says: a tree of cases, none of them if nothing is said. -/
inductive Tr (α : Type) where
  | ret (a : α) | no | ite (c : Bool) (t e : Tr α)
def Tr.run {α R : Type} : Tr α → (α → Option R) → Option R
  | .ret a, K => K a
  | .no, _ => none
  | .ite c t e, K => bif c then t.run K else e.run K
def Tr.val {α : Type} (t : Tr α) : Option α := t.run some
theorem Tr.run_val {α R : Type} : ∀ {t : Tr α} {K : α → Option R} {r : R}, t.run K = some r → ∃ a, t.val = some a ∧ K a = some r
  | .ret a, K, r, h => ⟨a, rfl, h⟩
  | .no, K, r, h => by cases h
  | .ite c t e, K, r, h => by
    cases c with
    | true => exact Tr.run_val (t := t) h
    | false => exact Tr.run_val (t := e) h

/-! ## the caller's side -/
def C.strip (I Ks : List Nat) (c : C) : C :=
  bif Ks.any fun k => c.hasKey k then .top else match c with
    | .lst e t xs own => bif I.any (· == own) then .lst e t xs 0 else .lst e t xs own
    | c => c
def tupV : List V → V
  | [v] => v
  | vs => .tup (vs.map fun v => (v.isAgg, v.cells))
def resOf (β : Bn) (id : Nat) (ss : List Sh) (x : DenL ss) : V := tupV (mkVs β (fun i => id + 1048576 * i) ss x 0)
/-- The ids that the owned ones get. -/
def owIds (f : Nat → Nat) : List Sh → Nat → List Nat
  | .dat _ _ own :: ss, i => (bif own then [f i] else []) ++ owIds f ss (i + 1)
  | .ptr _ _ :: ss, i => owIds f ss (i + 1)
  | [], _ => []
def owIdsO (β : Bn) : List (List Sh) → Nat → List Nat
  | [], _ => []
  | o :: os, i => match β.at i with
    | some k => owIds (idCell k) o 0 ++ owIdsO β os (i + 1)
    | none => []
def Sh.cellB : Sh → Bool
  | .dat _ agg _ => !agg
  | .ptr _ _ => true
def Io.ok (io : Io) : Bool := (io.obs ++ io.nobs).all (·.all Sh.cellB)
def unOb {α : Type} : List Nat → List (Option α) → List (Option α)
  | [], ob => ob
  | k :: ks, ob => unOb ks (ob.set k none)
def ioHd (io : Io) (F : io.In → Tr io.Res) (R : Type) (args : List V) (id : Nat) (A : AS) (K : Oc → AS → Option R) : Option R :=
  match mVs io.args args (List.replicate io.obs.length none) with
  | none => none
  | some (a, β1) => match mOb A.ob io.obs 0 β1 with
    | none => none
    | some (o, β) =>
      let ow := owVs (idTmp 0) io.args args 0 ++ owOb A.ob β (bnId io.obs.length 0) io.obs 0
      let us := ow.map (·.2)
      bif nodupB us && (nodupB (ow.map (·.1)) && io.ok) then (F (a, o)).run fun out => match out with
        | .pan x =>
          let A' := A.map (C.strip us [])
          ({ A' with ob := unOb (β.map (·.getD 0)) A'.ob } : AS).force (K (.pan (panV io.pan x)))
        | .ret (r, o') =>
          let base := max (id / 2) A.ob.length
          let β' := β ++ (List.range io.nobs.length).map fun j => some (base + j)
          let news := (List.range io.nobs.length).map (base + ·)
          let ids := owIds (fun i => id + 1048576 * i) io.res 0 ++ owIdsO β' (io.obs ++ io.nobs) 0
          let A' := A.map (C.strip (us ++ ids) news)
          bif nodupB ids then (resOf β' id io.res r).force fun v => ({ A' with ob := setOb β' (io.obs ++ io.nobs) o' 0 (A'.ob ++ List.replicate (base + io.nobs.length - A'.ob.length) none) } : AS).force (K (.ret v (some (β.map (·.getD 0) ++ news)))) else none
      else none

end
end Go.Proofs.Ytnppjkijhcampaa.Sym
