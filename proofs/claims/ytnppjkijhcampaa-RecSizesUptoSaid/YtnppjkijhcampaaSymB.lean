/- The abstract interpreter itself: abstract states, the operations on them, and the evaluator over code in continuation form. -/
import Derived.Test.YtnppjkijhcampaaSymA

namespace Go.Proofs.Ytnppjkijhcampaa.Sym
open Go
noncomputable section

/-! ## What is known of a type -/
inductive Ds where
  | bool | int (k : IntKind) | str | sl (e : Nat) | st (fs : List (Nat × Nat)) | pt (e : Nat) | fn | ifc | oth
  deriving DecidableEq

structure TI where
  d : Ds
  ty : Option Ty
  size : Nat
  bytes : Nat
  zero : List Value

def TI.none : TI := ⟨.oth, .none, 0, 0, []⟩
abbrev TT := List TI
def TT.at (tt : TT) (t : Nat) : TI := tt.getD t TI.none

/-! ## Constants -/
def okInt (k : IntKind) (n : Int) : Bool := decide (k.min ≤ n) && decide (n ≤ k.max)
def cOfVal : Value → C
  | .int k n => bif okInt k n then .int k n else .top
  | .bool b => .bool b
  | .string s => bif decide (s.size ≤ maxLen) then .str (unStr s) else .top
  | .slice none 0 0 => .nils
  | .pointer none => .nilp
  | .nilIface => .nilif
  | .nilFunc => .nilfn
  | _ => .top
def vOfVal : Value → V
  | .agg cs => bif cs.toList.all Value.oneCell' then .agg (cs.toList.map cOfVal) else .any
  | .tuple vs => match vs.toList with | [] => .tup [] | _ => .any
  | v => .one (cOfVal v)

/-! ## Abstract states -/
structure AS where
  tm : List V
  stk : List (List V)
  ob : List (Option (List C))

def AS.get (A : AS) (t : Nat) : V := A.tm.getD t .any
def AS.put (A : AS) (dst : Option Nat) (v : V) : AS := match dst with
  | some d => { A with tm := A.tm.set d v }
  | none => A
def AS.map (f : C → C) (A : AS) : AS := ⟨A.tm.map (V.map f), A.stk.map (·.map (V.map f)), A.ob.map (Option.map (·.map f))⟩
def opd (A : AS) : Operand → V
  | .tmp t => A.get t
  | .const v => vOfVal v
  | .global _ => .any
  | .func f => .one (.fn f [])

/-! ## Data and cells -/
def castC : (t : Ty) → C → Option t.den
  | .int k, .int k' n => if k = k' then some n else none
  | .bool, .bool b => some b
  | .str, .str s => some s
  | .sl e t, .lst e' t' xs _ => if h : e = e' ∧ t' = t then some (h.2 ▸ xs) else none
  | .sl _ _, .nils => some []
  | _, _ => none
def castCs : (t : Ty) → List C → Option (t.den × List C)
  | .unit, cs => some ((), cs)
  | .prod a b, cs => match castCs a cs with
    | some (x, r) => match castCs b r with
      | some (y, r') => some ((x, y), r')
      | none => none
    | none => none
  | .int k, c :: r => match castC (.int k) c with | some x => some (x, r) | none => none
  | .bool, c :: r => match castC .bool c with | some x => some (x, r) | none => none
  | .str, c :: r => match castC .str c with | some x => some (x, r) | none => none
  | .sl e t, c :: r => match castC (.sl e t) c with | some x => some (x, r) | none => none
  | _, [] => none
def castV (t : Ty) : V → Option t.den
  | .one c => match castCs t [c] with | some (x, []) => some x | _ => none
  | .agg cs => match castCs t cs with | some (x, []) => some x | _ => none
  | _ => none
def toCs : (t : Ty) → t.den → List C
  | .int k, n => [.int k n]
  | .bool, b => [.bool b]
  | .str, s => [.str s]
  | .sl e t, xs => [.lst e t xs 0]
  | .unit, _ => []
  | .prod a b, x => toCs a x.1 ++ toCs b x.2
/-- The cells' own types. -/
def Ty.flat : Ty → List Ty
  | .unit => []
  | .prod a b => a.flat ++ b.flat
  | t => [t]

/-! ### nil slices get their type -/
def retypeC (id : Nat) : Option Ty → C → C
  | some (.sl e t), .nils => .lst e t [] id
  | _, c => c
def retypeCs (id : Nat) : List Ty → List C → List C
  | t :: ts, c :: cs => retypeC id (some t) c :: retypeCs (id + 2) ts cs
  | _, cs => cs
def retype (tt : TT) (id t : Nat) : V → V
  | .one c => .one (retypeC id (tt.at t).ty c)
  | v => v

def idTmp (kb d : Nat) : Nat := (kb + d) * 2 + 1
def idCell (key off : Nat) : Nat := (key * 256 + off) * 2 + 2

/-! ## Operations that only compute -/
/-! The operations on bits, by names. -/
def spAnd (k : IntKind) (x y : Int) : Int := k.wrap (BitVec.ofInt k.bits x &&& BitVec.ofInt k.bits y).toNat
def spOr (k : IntKind) (x y : Int) : Int := k.wrap (BitVec.ofInt k.bits x ||| BitVec.ofInt k.bits y).toNat
def spXor (k : IntKind) (x y : Int) : Int := k.wrap (BitVec.ofInt k.bits x ^^^ BitVec.ofInt k.bits y).toNat
def spAndNot (k : IntKind) (x y : Int) : Int := k.wrap (BitVec.ofInt k.bits x &&& ~~~BitVec.ofInt k.bits y).toNat
def spShl (k : IntKind) (x y : Int) : Int := k.wrap (x * 2 ^ (min y.toNat k.bits))
def spShr (k : IntKind) (x y : Int) : Int := k.wrap (x.fdiv (2 ^ (min y.toNat k.bits)))
def intOp (op : BinOp) (k : IntKind) (x y : Int) : Option (Bool × C) :=
  match op with
  | .add => some (true, .int k (k.wrap (x + y)))
  | .sub => some (true, .int k (k.wrap (x - y)))
  | .mul => some (true, .int k (k.wrap (x * y)))
  | .quo => some (decide (y ≠ 0), .int k (k.wrap (x.tdiv y)))
  | .rem => some (decide (y ≠ 0), .int k (k.wrap (x.tmod y)))
  | .and => some (true, .int k (spAnd k x y))
  | .or => some (true, .int k (spOr k x y))
  | .xor => some (true, .int k (spXor k x y))
  | .andNot => some (true, .int k (spAndNot k x y))
  | .eql => some (true, .bool (x == y))
  | .neq => some (true, .bool (x != y))
  | .lss => some (true, .bool (decide (x < y)))
  | .leq => some (true, .bool (decide (x ≤ y)))
  | .gtr => some (true, .bool (decide (x > y)))
  | .geq => some (true, .bool (decide (x ≥ y)))
  | _ => none
def shOp (op : BinOp) (k : IntKind) (x y : Int) : Option (Bool × C) :=
  match op with
  | .shl => some (decide (0 ≤ y), .int k (spShl k x y))
  | .shr => some (decide (0 ≤ y), .int k (spShr k x y))
  | _ => none
def isSh : BinOp → Bool
  | .shl => true
  | .shr => true
  | _ => false
/-- Are the cells alike? (whole numbers, bools, strings alone) -/
def eqCs : List C → List C → Option Bool
  | [], [] => some true
  | c :: cs, d :: ds => match eqCs cs ds with
    | none => none
    | some r => match c, d with
      | .int k x, .int k' y => bif decide (k = k') then some ((x == y) && r) else none
      | .bool x, .bool y => some ((x == y) && r)
      | .str x, .str y => some (decide (x = y) && r)
      | _, _ => none
  | _, _ => none
def neg (op : BinOp) (b : Bool) : Option (Bool × C) :=
  match op with
  | .eql => some (true, .bool b)
  | .neq => some (true, .bool (!b))
  | _ => none
def binOpC (tt : TT) (op : BinOp) (xT : Nat) : C → C → Option (Bool × C)
  | .int k x, .int k' y => bif isSh op then shOp op k x y else bif decide (k = k') then intOp op k x y else none
  | .str x, .str y => match op with
    | .add => some (decide (x.length + y.length ≤ 4294967296), .str (x ++ y))
    | op => neg op (decide (x = y))
  | .bool x, .bool y => match (tt.at xT).d with
    | .bool => neg op (x == y)
    | _ => none
  | .nilfn, .nilfn => none
  | _, _ => none
def wrapC (p : Bool × C) : Bool × V := (p.1, .one p.2)
def binOpV (tt : TT) (op : BinOp) (xT : Nat) : V → V → Option (Bool × V)
  | .one a, .one b => (binOpC tt op xT a b).map wrapC
  | _, _ => none
def unOpC (op : UnOp) : C → Option C
  | .int k n => match op with
    | .neg => some (.int k (k.wrap (0 - n)))
    | .xor => some (.int k (k.wrap (BitVec.ofInt k.bits (if k.signed then -1 else k.max) ^^^ BitVec.ofInt k.bits n).toNat))
    | _ => none
  | .bool b => match op with
    | .not => some (.bool (!b))
    | _ => none
  | _ => none
def convC (tt : TT) (src dst : Nat) : C → Option C
  | .int _ n => match (tt.at src).d, (tt.at dst).d with
    | .int _, .int k => some (.int k (k.wrap n))
    | _, _ => none
  | .str s => match (tt.at src).d, (tt.at dst).d with
    | .str, .str => some (.str s)
    | _, _ => none
  | .lst _ t xs _ => match (tt.at src).d, (tt.at dst).d, t, xs with
    | .sl e, .str, .int .u8, xs => match (tt.at e).d with | .int .u8 => some (.str xs) | _ => none
    | _, _, _, _ => none
  | _ => none
/-- A string's iterator is no cell. -/
def C.isItr : C → Bool
  | .itr _ => true
  | _ => false
/-- A character of a string: it, and how many bytes it takes. -/
def spRune (s : List Int) (p : Int) : Int × Int := match p with
  | .ofNat n => (((Utf8.decode (mkStr s) n).1 : Int), ((Utf8.decode (mkStr s) n).2 : Int))
  | .negSucc _ => (65533, 1)
theorem spRune_nat (s : List Int) (n : Nat) : spRune s (n : Int) = (((Utf8.decode (mkStr s) n).1 : Int), ((Utf8.decode (mkStr s) n).2 : Int)) := rfl
/-- How many cells a type takes. -/
def szOf (tt : TT) (t : Nat) : Option Nat := match (tt.at t).d with
  | .oth => none
  | _ => some (tt.at t).size
def szIs (tt : TT) (t n : Nat) : Bool := match szOf tt t with
  | some m => (n == m) && !(n == 0)
  | none => false
/-- The fields' offsets and sizes. -/
def fieldOf (tt : TT) (s f : Nat) : Option (Nat × Nat × Nat) := match (tt.at s).d with
  | .st fs => match fs[f]? with
    | some (off, t) => match szOf tt t with
      | some sz => some (off, t, sz)
      | none => none
    | none => none
  | _ => none
def isSt : Ds → Bool
  | .st _ => true
  | _ => false
/-- Some of a struct's cells, as the value of a field. -/
def partV (tt : TT) (t : Nat) (cs : List C) : Option V :=
  match (tt.at t).d with
  | .oth => none
  | .st _ => some (.agg cs)
  | _ => match cs with
    | [c] => some (.one c)
    | _ => none
def Ty.sub : (t : Ty) → t.den → Nat → Option (Σ t' : Ty, t'.den)
  | .prod a _, x, 0 => some ⟨a, x.1⟩
  | .prod _ b, x, f + 1 => Ty.sub b x.2 f
  | _, _, _ => none
def Ty.offs : Ty → Nat → Nat
  | .prod _ _, 0 => 0
  | .prod a b, f + 1 => a.size + Ty.offs b f
  | _, _ => 0
def intV : V → Option (IntKind × Int)
  | .one (.int k n) => some (k, n)
  | _ => none
def boundV (A : AS) (dflt : Int) : Option Operand → Option Int
  | none => some dflt
  | some x => (intV (opd A x)).map (·.2)
def cut {α : Type} (xs : List α) (lo hi : Int) : List α := (xs.take hi.toNat).drop lo.toNat
def lenV : V → Option Int
  | .one (.lst _ _ xs _) => some xs.length
  | .one (.str s) => some s.length
  | .one .nils => some 0
  | _ => none
def capOf (A : AS) : Operand → Option Cp
  | .tmp t => match A.get t with
    | .one (.ptr k o) => some (.ptr k o)
    | .one (.int k n) => some (.dat (.int k) n)
    | .one (.bool b) => some (.dat .bool b)
    | .one (.str s) => some (.dat .str s)
    | .one (.lst e t xs _) => some (.dat (.sl e t) xs)
    | _ => none
  | _ => none
def capsOf (A : AS) : List Operand → Option (List Cp)
  | [] => some []
  | x :: xs => match capOf A x, capsOf A xs with
    | some c, some cs => some (c :: cs)
    | _, _ => none
def Cp.toV : Cp → V
  | .ptr k o => .one (.ptr k o)
  | .dat t x => match toCs t x with
    | [c] => .one c
    | _ => .any
/-- A field's cells put into a struct's. -/
def splice {α : Type} (cs : List α) (off : Nat) (new : List α) : List α := cs.take off ++ new ++ cs.drop (off + new.length)
def V.cells : V → List C
  | .one c => [c]
  | .agg cs => cs
  | _ => []
def V.solid : V → Bool
  | .one _ => true
  | .agg _ => true
  | _ => false
def V.isAgg : V → Bool
  | .agg _ => true
  | _ => false
def buildCs (tt : TT) (A : AS) (fs : List (Nat × Nat)) : List (Nat × Operand) → List C → Option (List C)
  | [], cs => some cs
  | (i, x) :: ps, cs => match fs[i]? with
    | none => none
    | some (off, t) => bif (opd A x).solid && (szIs tt t (opd A x).cells.length && decide (off + (opd A x).cells.length ≤ cs.length)) then
        buildCs tt A fs ps (splice cs off (opd A x).cells) else none

def zeroCs (tt : TT) (id t : Nat) : List C := match (tt.at t).ty with
  | some ty => retypeCs id ty.flat ((tt.at t).zero.map cOfVal)
  | none => (tt.at t).zero.map cOfVal

def evP (tt : TT) (id : Nat) (A : AS) (ty : Nat) : Op → Option (Bool × V)
  | .move x => some (true, retype tt id ty (opd A x))
  | .assign x => some (true, retype tt id ty (opd A x))
  | .nilCheck x => match opd A x with
    | .one (.ptr k o) => some (true, .one (.ptr k o))
    | .one (.ro t d) => some (true, .one (.ro t d))
    | .one (.fn f c) => some (true, .one (.fn f c))
    | _ => none
  | .binOp op xT x y _ => binOpV tt op xT (opd A x) (opd A y)
  | .unOp op _ x => match opd A x with
    | .one c => (unOpC op c).map fun c => (true, .one c)
    | _ => none
  | .convert src dst x => match opd A x with
    | .one c => (convC tt src dst c).map fun c => (true, .one c)
    | _ => none
  | .fieldAddr s x f => match fieldOf tt s f, opd A x with
    | some (off, _, sz), .one (.ptr k o) => bif sz == 0 then none else some (true, .one (.ptr k (o + off)))
    | some (off, _, sz), .one (.ro t d) => match t.sub d f with
      | some ⟨t', d'⟩ => bif (sz == 0) || !(t'.size == sz) || !(t.offs f == off) then none else some (true, .one (.ro t' d'))
      | none => none
    | _, _ => none
  | .field s x f => match fieldOf tt s f, opd A x with
    | some (off, t, sz), .agg cs => (partV tt t ((cs.drop off).take sz)).map fun v => (decide (off + sz ≤ cs.length), v)
    | _, _ => none
  | .indexAddr t x i => match (tt.at t).d, opd A x, intV (opd A i) with
    | .sl e, .one (.lst e' t' xs _), some (_, i) => bif (e == e') && szIs tt e t'.size then
        some (decide (0 ≤ i) && decide (i < xs.length), .one (.ro t' (xs.getD i.toNat t'.zero))) else none
    | _, _, _ => none
  | .index t x i => match (tt.at t).d, opd A x, intV (opd A i) with
    | .str, .one (.str s), some (_, i) => some (decide (0 ≤ i) && decide (i < s.length), .one (.int .u8 (s.getD i.toNat 0)))
    | _, _, _ => none
  | .slice t x lo hi mx => match opd A x with
    | .one (.lst e t' xs _) => match (tt.at t).d, boundV A 0 lo, boundV A xs.length hi, mx with
      | .sl e', some l, some h, none => bif (e == e') && szIs tt e t'.size then
          some (decide (0 ≤ l) && (decide (l ≤ h) && decide (h ≤ xs.length)), .one (.lst e t' (cut xs l h) 0)) else none
      | .sl e', some l, some h, some m => match hi, intV (opd A m) with
        | some _, some (_, n) => bif (e == e') && szIs tt e t'.size then
          some (decide (0 ≤ l) && (decide (l ≤ h) && (decide (h ≤ n) && decide (n ≤ xs.length))), .one (.lst e t' (cut xs l h) 0)) else none
        | _, _ => none
      | _, _, _, _ => none
    | .one (.str s) => match (tt.at t).d, boundV A 0 lo, boundV A s.length hi, mx with
      | .str, some l, some h, none => some (decide (0 ≤ l) && (decide (l ≤ h) && decide (h ≤ s.length)), .one (.str (cut s l h)))
      | _, _, _, _ => none
    | _ => none
  | .load t x => match opd A x with
    | .one (.ptr k o) => match A.ob[k]? with
      | some (some cs) => bif cs.any C.isItr then none else (partV tt t ((cs.drop o).take (tt.at t).size)).map fun v => (decide (o + (tt.at t).size ≤ cs.length), v)
      | _ => none
    | .one (.ro t' d) => bif t'.size == (tt.at t).size then (partV tt t (toCs t' d)).map fun v => (true, v) else none
    | _ => none
  | .extract x i => match opd A x with
    | .tup ps => match ps[i]? with
      | some (true, cs) => some (true, .agg cs)
      | some (false, [c]) => some (true, .one c)
      | _ => none
    | _ => none
  | .build t parts => match (tt.at t).d with
    | .st fs => bif fs.all (fun f => (szOf tt f.2).isSome) && (tt.at t).zero.all Value.oneCell' then
        (buildCs tt A fs parts.toList (zeroCs tt id t)).map fun cs => (true, .agg cs) else none
    | _ => none
  | .makeFunc fn first captured => match fn, first.toList with
    | .func f, [] => match capsOf A captured.toList with
      | some cs => some (true, .one (.fn f cs))
      | none => none
    | _, _ => none
  | .makeInterface t x => match (tt.at t).d, (tt.at t).ty, opd A x with
    | .ifc, _, _ => none
    | .oth, _, _ => none
    | d, some ty, v => bif (isSt d == v.isAgg) && (!ty.isProd || v.isAgg) then (castV ty v).map fun x => (true, .one (.ifc t ty x)) else none
    | _, _, _ => none
  | .typeAssert x _ a true => match (tt.at a).d, (tt.at a).ty, opd A x with
    | .st _, some ty, .one (.ifc T t d) => bif (T == a) && (decide (t = ty) && ty.isProd) then some (true, .tup [(true, toCs t d), (false, [.bool true])])
      else bif !(T == a) && (tt.at a).zero.all Value.oneCell' then some (true, .tup [(true, zeroCs tt id a), (false, [.bool false])]) else none
    | .st _, some _, .one .nilif => bif (tt.at a).zero.all Value.oneCell' then some (true, .tup [(true, zeroCs tt id a), (false, [.bool false])]) else none
    | _, _, _ => none
  | .call c => match c.callee with
    | .builtin .len => match c.args.toList, c.argTypes.toList with
      | [x], t :: _ => match (tt.at t).d, opd A x with
        | .str, .one (.str s) => some (true, .one (.int .i64 s.length))
        | .sl _, .one (.lst _ _ xs _) => some (true, .one (.int .i64 xs.length))
        | .sl _, .one .nils => some (true, .one (.int .i64 0))
        | _, _ => none
      | _, _ => none
    | .builtin .min => match c.args.toList with
      | [x, y] => match opd A x, opd A y with
        | .one (.int k a), .one (.int k' b) => bif decide (k = k') then some (true, .one (.int k (if b < a then b else a))) else none
        | _, _ => none
      | _ => none
    | .builtin .max => match c.args.toList with
      | [x, y] => match opd A x, opd A y with
        | .one (.int k a), .one (.int k' b) => bif decide (k = k') then some (true, .one (.int k (if b > a then b else a))) else none
        | _, _ => none
      | _ => none
    | _ => none
  | _ => none

/-! ## Operations that touch memory -/
/-- A new object under a key: what was known of that key is forgotten. -/
def AS.newOb (A : AS) (key : Nat) (cs : List C) : AS :=
  let A' := A.map (C.noKey key)
  { A' with ob := ((A'.ob ++ List.replicate (key + 1 - A'.ob.length) none).set key (some cs)) }
def castAll (t : Ty) (A : AS) : Nat → List (Nat × Operand) → Option (List t.den)
  | _, [] => some []
  | n, (i, x) :: ps => bif i == n then match castV t (opd A x), castAll t A (n + 1) ps with
    | some d, some ds => some (d :: ds)
    | _, _ => none
    else none

/-- What is appended: a slice of the same elements, or a string's bytes. -/
def appSrc (tt : TT) (e : Nat) (ty : Ty) (t : Nat) (v : V) : Option (List ty.den) :=
  match (tt.at t).d, v with
  | .sl e', .one c => bif e' == e then castC (.sl e ty) c else none
  | .str, .one (.str s) => if h : ty = .int .u8 then some (h ▸ (s : List (Ty.den (.int .u8)))) else none
  | _, _ => none

def evA (tt : TT) (kb : Nat) (A : AS) (dst : Option Nat) : Op → Option (Bool × AS)
  | .alloc t => match dst with
    | some d => bif (szOf tt t).isSome && (tt.at t).zero.all Value.oneCell' then
        some (true, (A.newOb (kb + d) (zeroCs tt (idCell (kb + d) 0) t)).put (some d) (.one (.ptr (kb + d) 0))) else none
    | none => none
  | .box _ x => match dst with
    | some d => bif (opd A x).solid then some (true, (A.newOb (kb + d) (((opd A x).map (C.noKey (kb + d))).cells)).put (some d) (.one (.ptr (kb + d) 0))) else none
    | none => none
  | .store t a x => match opd A a with
    | .one (.ptr k o) => match A.ob[k]? with
      | some (some cs) => bif !cs.any C.isItr && ((opd A x).solid && szIs tt t (opd A x).cells.length) then
          some (decide (o + (opd A x).cells.length ≤ cs.length), ({ A with ob := A.ob.set k (some (splice cs o (retype tt (idCell k o) t (opd A x)).cells)) } : AS).put dst (.tup [])) else none
      | _ => none
    | _ => none
  | .range t x => match dst, (tt.at t).d, opd A x with
    | some d, .str, .one (.str s) => some (true, (A.newOb (kb + d) [.itr (s, 0)]).put (some d) (.one (.ptr (kb + d) 0)))
    | _, _, _ => none
  | .buildSlice t n parts => match dst, (tt.at t).d with
    | some d, .sl e => match (tt.at e).ty with
      | some ty => bif szIs tt e ty.size && (parts.toList.length == n) && decide (n * ty.size ≤ 65536) then
          match castAll ty A 0 parts.toList with
          | some xs => some (true, (A.map (C.noOwn (idTmp kb d))).put (some d) (.one (.lst e ty xs (idTmp kb d))))
          | none => none
        else none
      | none => none
    | _, _ => none
  | .convert st dt x => match dst, (tt.at dt).d, opd A x with
    | some d, .sl e, .one (.str s) => match (tt.at e).d, (tt.at st).d with
      | .int .u8, .str => some (true, A.put (some d) (.one (.lst e (.int .u8) s 0)))
      | _, _ => none
    | some d, .sl e, .one (.lst e' ty xs own) => match (tt.at e).d with
      | .int .u8 => bif Nat.beq st dt && (Nat.beq e e' && !(own == 0)) then some (!xs.isEmpty, (A.map (C.noOwn own)).put (some d) (.one (.lst e' ty xs 0))) else none
      | _ => none
    | _, _, _ => none
  | .call c => match c.callee with
    | .builtin .append => match dst, c.args.toList, c.argTypes.toList with
      | some d, [s, x], [t, t'] => match (tt.at t).d, opd A s with
        | .sl e, .one (.lst e1 ty xs own) => bif (e == e1) && !(own == 0) && szIs tt e ty.size && decide ((tt.at e).bytes ≤ 4096) && !((tt.at e).bytes == 0) && ((tt.at e).zero.length == ty.size) then
            match appSrc tt e ty t' (opd A x) with
            | some ys => some (decide (xs.length + ys.length ≤ 4294967296), (A.map (C.noOwn own)).put (some d) (.one (.lst e ty (xs ++ ys) own)))
            | none => none
          else none
        | _, _ => none
      | _, _, _ => none
    | _ => none
  | _ => none

/-! ## Laying states open -/
def C.force {R : Type} (c : C) (k : C → R) : R := match c with
  | .int a b => k (.int a b)
  | .bool b => k (.bool b)
  | .str s => k (.str s)
  | .lst e t xs own => k (.lst e t xs own)
  | .nils => k .nils
  | .ptr a b => k (.ptr a b)
  | .ro t x => k (.ro t x)
  | .nilp => k .nilp
  | .fn f cs => k (.fn f cs)
  | .ifc T t x => k (.ifc T t x)
  | .nilif => k .nilif
  | .nilfn => k .nilfn
  | .top => k .top
  | .itr x => k (.itr x)
theorem C.force_eq {R : Type} (c : C) (k : C → R) : c.force k = k c := by cases c <;> rfl
def forceCs {R : Type} : List C → (List C → R) → R
  | [], k => k []
  | c :: cs, k => c.force fun c => forceCs cs fun cs => k (c :: cs)
theorem forceCs_eq {R : Type} : ∀ (cs : List C) (k : List C → R), forceCs cs k = k cs
  | [], _ => rfl
  | c :: cs, k => by rw [forceCs, C.force_eq, forceCs_eq cs]
def V.force {R : Type} (v : V) (k : V → R) : R := match v with
  | .one c => c.force fun c => k (.one c)
  | .agg cs => forceCs cs fun cs => k (.agg cs)
  | .tup ps => k (.tup ps)
  | .any => k .any
theorem V.force_eq {R : Type} (v : V) (k : V → R) : v.force k = k v := by
  cases v with
  | one c => simp only [V.force]; rw [C.force_eq]
  | agg cs => simp only [V.force]; rw [forceCs_eq]
  | tup ps => rfl
  | any => rfl
def setK {R : Type} : List V → Nat → V → (List V → R) → R
  | [], _, _, k => k []
  | _ :: xs, 0, v, k => k (v :: xs)
  | x :: xs, d + 1, v, k => setK xs d v fun xs => k (x :: xs)
theorem setK_eq {R : Type} : ∀ (l : List V) (d : Nat) (v : V) (k : List V → R), setK l d v k = k (l.set d v)
  | [], _, _, _ => rfl
  | _ :: _, 0, _, _ => rfl
  | x :: xs, d + 1, v, k => by rw [setK, setK_eq xs d v]; rfl
def AS.putK {R : Type} (A : AS) (dst : Option Nat) (v : V) (k : AS → R) : R := match dst with
  | none => k A
  | some d => v.force fun v => match A with
    | ⟨tm, stk, ob⟩ => setK tm d v fun tm => k ⟨tm, stk, ob⟩
theorem AS.putK_eq {R : Type} (A : AS) (dst : Option Nat) (v : V) (k : AS → R) : A.putK dst v k = k (A.put dst v) := by
  cases dst with
  | none => rfl
  | some d => rw [AS.putK, V.force_eq]; cases A; simp only [setK_eq]; rfl
def forceVs {R : Type} : List V → (List V → R) → R
  | [], k => k []
  | v :: vs, k => v.force fun v => forceVs vs fun vs => k (v :: vs)
theorem forceVs_eq {R : Type} : ∀ (vs : List V) (k : List V → R), forceVs vs k = k vs
  | [], _ => rfl
  | v :: vs, k => by rw [forceVs, V.force_eq, forceVs_eq vs]
def forceVss {R : Type} : List (List V) → (List (List V) → R) → R
  | [], k => k []
  | v :: vs, k => forceVs v fun v => forceVss vs fun vs => k (v :: vs)
theorem forceVss_eq {R : Type} : ∀ (vs : List (List V)) (k : List (List V) → R), forceVss vs k = k vs
  | [], _ => rfl
  | v :: vs, k => by rw [forceVss, forceVs_eq, forceVss_eq vs]
def forceOb {R : Type} : List (Option (List C)) → (List (Option (List C)) → R) → R
  | [], k => k []
  | none :: os, k => forceOb os fun os => k (none :: os)
  | some cs :: os, k => forceCs cs fun cs => forceOb os fun os => k (some cs :: os)
theorem forceOb_eq {R : Type} : ∀ (os : List (Option (List C))) (k : List (Option (List C)) → R), forceOb os k = k os
  | [], _ => rfl
  | none :: os, k => by rw [forceOb, forceOb_eq os]
  | some cs :: os, k => by rw [forceOb, forceCs_eq, forceOb_eq os]
def AS.force {R : Type} (A : AS) (k : AS → R) : R := match A with
  | ⟨tm, stk, ob⟩ => forceVs tm fun tm => forceVss stk fun stk => forceOb ob fun ob => k ⟨tm, stk, ob⟩
theorem AS.force_eq {R : Type} (A : AS) (k : AS → R) : A.force k = k A := by
  cases A; simp only [AS.force]; rw [forceVs_eq, forceVss_eq, forceOb_eq]

/-! ## The evaluator -/
inductive Ex where
  | normal | exit (id : Nat) | ret | panic (v : V)
inductive Oc where
  | ret (v : V) (ks : Option (List Nat)) | pan (v : V)
/-- What a call of a function comes to; the keys that it may have touched. -/
abbrev Hd := (R : Type) → (f : Nat) → (args : List V) → (id : Nat) → AS → (Oc → AS → Option R) → Option R

/-- The objects under the keys hid are read by operations that may yet come. -/
def hidA (A : AS) (hid : List Nat) (kb : Nat) (o : Oper) : Bool := match hid with
  | [] => true
  | k :: hid => !(k :: hid).any (· == kb + o.dst.getD 0) && match o.op with
    | .store _ a _ => match opd A a with
      | .one (.ptr j _) => !(k :: hid).any (· == j)
      | _ => false
    | _ => true
def hidC (hid : List Nat) (ks : Option (List Nat)) : Bool := match hid with
  | [] => true
  | k :: hid => match ks with
    | some ks => !(k :: hid).any fun k => ks.any (· == k)
    | none => false

def evOp (tt : TT) (hd : Hd) (kb : Nat) (hid : List Nat) {R : Type} (o : Oper) (A : AS) (K : Ex → AS → Option R) : Option R :=
  match o.op with
  | .pick c a b => match opd A c with
    | .one (.bool x) => bif x then A.putK o.dst (opd A a) (K .normal) else A.putK o.dst (opd A b) (K .normal)
    | _ => none
  | .panic x => match opd A x with
    | .one (.ifc T t d) => K (.panic (.one (.ifc T t d))) A
    | _ => none
  | .next it str => match hid, str, opd A it with
    | [], true, .one (.ptr k 0) => match A.ob[k]? with
      | some (some [.itr x]) => bif decide (x.2 < (x.1.length : Int)) then
          AS.putK { A with ob := A.ob.set k (some [.itr (x.1, x.2 + (spRune x.1 x.2).2)]) } o.dst (.tup [(false, [.bool true]), (false, [.int .i64 x.2]), (false, [.int .i32 (spRune x.1 x.2).1])]) (K .normal)
          else A.putK o.dst (.tup [(false, [.bool false])]) (K .normal)
      | _ => none
    | _, _, _ => none
  | op => match evP tt (idTmp kb (o.dst.getD 0)) A o.type op with
    | some (chk, v) => bif chk then A.putK o.dst v (K .normal) else none
    | none => match evA tt kb A o.dst op with
      | some (chk, A') => bif hidA A hid kb o && chk then A'.force (K .normal) else none
      | none => match op with
        | .call c => match c.callee with
          | .value f => match opd A f with
            | .one (.fn g caps) => hd R g (c.args.toList.map (opd A) ++ caps.map Cp.toV) (idTmp kb (o.dst.getD 0)) A fun oc A' => match oc with
              | .ret v ks => bif hidC hid ks then A'.putK o.dst v (K .normal) else none
              | .pan v => K (.panic v) A'
            | _ => none
          | _ => none
        | _ => none

/-- With its guard: f is the operation itself. -/
def guarded (ops : Array Oper) {R : Type} (o : Oper) (A : AS) (f : AS → Option R) (K : AS → Option R) : Option R :=
  match o.guard with
  | none => f A
  | some (j, want) => match (ops[j]?).bind (·.dst) with
    | none => none
    | some d => match A.get d with
      | .tup [] => A.putK o.dst (.tup []) K
      | .one (.bool x) => bif x
        then (bif want
          then A.putK (some d) (.one (.bool true)) f
          else A.putK (some d) (.one (.bool true)) fun A => A.putK o.dst (.tup []) K)
        else (bif want
          then A.putK (some d) (.one (.bool false)) fun A => A.putK o.dst (.tup []) K
          else A.putK (some d) (.one (.bool false)) f)
      | _ => none

def evOps (tt : TT) (hd : Hd) (kb : Nat) (ops : Array Oper) {R : Type} : List Nat → AS → (Ex → AS → Option R) → Option R
  | [], A, K => K .normal A
  | i :: is, A, K => match ops[i]? with
    | none => none
    | some o => guarded ops o A (fun A => evOp tt hd kb [] o A fun ex A' => match ex with
        | .normal => evOps tt hd kb ops is A' K
        | ex => K ex A') fun A => evOps tt hd kb ops is A K

/-! ### a region that may be carried out in several orders -/
def isRead : Op → Bool
  | .load .. => true
  | .convert .. => true
  | _ => false
def loadKey (A : AS) : Op → List Nat
  | .load _ x => match opd A x with
    | .one (.ptr k _) => [k]
    | _ => []
  | _ => []
def dstMask (ops : Array Oper) : Nat := ops.toList.foldl (fun m o => match o.dst with | some d => m ||| 2 ^ d | none => m) 0
def maskN (m : Nat) : Nat → List V → List V
  | _, [] => []
  | i, v :: vs => (bif m.testBit i then .any else v) :: maskN m (i + 1) vs
/-- A step of a canonical order: 0 computes, 1 reads, 2 is the only one that may come, 3 likewise and behind all that reads. -/
def evD (tt : TT) (hd : Hd) (kb : Nat) (ops : Array Oper) {R : Type} : List (Nat × Nat) → List Nat → AS → (Ex → AS → Option R) → Option R
  | [], _, A, K => K .normal A
  | (i, m) :: is, hid, A, K => match ops[i]? with
    | none => none
    | some o => match m with
      | 0 => guarded ops o A (fun A => match evP tt (idTmp kb (o.dst.getD 0)) A o.type o.op with
          | some (chk, v) => bif chk then A.putK o.dst v fun A => evD tt hd kb ops is hid A K else none
          | none => none) fun A => evD tt hd kb ops is hid A K
      | 1 => guarded ops o A (fun A => match evP tt (idTmp kb (o.dst.getD 0)) A o.type o.op with
          | some (chk, v) => bif chk then A.putK o.dst v fun A' => evD tt hd kb ops is (loadKey A o.op ++ hid) A' K else none
          | none => none) fun A => evD tt hd kb ops is hid A K
      | 2 => guarded ops o A (fun A => evOp tt hd kb hid o A fun ex A' => match ex with
          | .normal => evD tt hd kb ops is hid A' K
          | .panic v => K (.panic v) { A' with tm := maskN (dstMask ops) 0 A'.tm }
          | ex => K ex A') fun A => evD tt hd kb ops is hid A K
      | _ => guarded ops o A (fun A => evOp tt hd kb [] o A fun ex A' => match ex with
          | .normal => evD tt hd kb ops is hid A' K
          | .panic v => K (.panic v) { A' with tm := maskN (dstMask ops) 0 A'.tm }
          | ex => K ex A') fun A => evD tt hd kb ops is hid A K

/-! ### what is read later -/
def bitOpd : Operand → Nat
  | .tmp t => 2 ^ t
  | _ => 0
def liveOps (ops : Array Oper) : List Oper → Nat → Nat
  | [], l => l
  | o :: os, l =>
    let l := liveOps ops os l
    let l := match o.dst with | some d => if l.testBit d then l ^^^ 2 ^ d else l | none => l
    let l := o.op.operands.toList.foldl (fun l x => l ||| bitOpd x) l
    match o.guard with
    | some (j, _) => match (ops[j]?).bind (·.dst) with | some d => l ||| 2 ^ d | none => l
    | none => l
def live (lr : Nat) : Code → Nat → List (Nat × Nat) → Nat
  | .region _ ops _, l, _ => liveOps ops ops.toList l
  | .seq a b, l, x => live lr a (live lr b l x) x
  | .cond c t e, l, x => bitOpd c ||| live lr t l x ||| live lr e l x
  | .block id b, l, x => live lr b l ((id, l) :: x)
  | .loop b, _, x => live lr b 0 x
  | .exit id, _, x => match x.find? (·.1 == id) with | some p => p.2 | none => 0
  | .ret, _, _ => lr
  | .skip, l, _ => l
  | _, l, _ => l
def maskTm (m : Nat) : Nat → List V → List V
  | _, [] => []
  | i, v :: vs => (bif m.testBit i then v else .any) :: maskTm m (i + 1) vs
def V.hasKey (k : Nat) : V → Bool
  | .one c => c.hasKey k
  | .agg cs => cs.any (·.hasKey k)
  | .tup ps => ps.any fun p => p.2.any (·.hasKey k)
  | .any => false
def AS.uses (A : AS) (k : Nat) : Bool :=
  A.tm.any (·.hasKey k) || A.stk.any (·.any (·.hasKey k)) || A.ob.any fun o => match o with | some cs => cs.any (·.hasKey k) | none => false
/-- Objects that nothing names any more are forgotten. -/
def AS.drop (A : AS) (k : Nat) : AS :=
  let A' := A.map (C.noKey k)
  { A' with ob := A'.ob.set k none }
def AS.gc (A : AS) : List Nat → AS
  | [] => A
  | k :: ks => match A.ob[k]? with
    | some (some _) => bif A.uses k then AS.gc A ks else AS.gc (A.drop k) ks
    | _ => AS.gc A ks
def trim {α : Type} : List (Option α) → List (Option α)
  | [] => []
  | none :: l => match trim l with | [] => [] | l' => none :: l'
  | some x :: l => some x :: trim l
def nodupB : List Nat → Bool
  | [] => true
  | x :: xs => !xs.any (· == x) && nodupB xs
/-! Owned lists get the names of their places. -/
def C.reOwn (ps : List (Nat × Nat)) : C → C
  | .lst e t xs own => .lst e t xs (bif own == 0 then 0 else match ps.find? (·.2 == own) with | some p => p.1 | none => 0)
  | c => c
def homesT (kb : Nat) : Nat → List V → List (Nat × Nat)
  | _, [] => []
  | i, .one (.lst _ _ _ own) :: vs => (bif own == 0 then [] else [(idTmp kb i, own)]) ++ homesT kb (i + 1) vs
  | i, _ :: vs => homesT kb (i + 1) vs
def homesC (key : Nat) : Nat → List C → List (Nat × Nat)
  | _, [] => []
  | i, .lst _ _ _ own :: cs => (bif own == 0 then [] else [(idCell key i, own)]) ++ homesC key (i + 1) cs
  | i, _ :: cs => homesC key (i + 1) cs
def homesO : Nat → List (Option (List C)) → List (Nat × Nat)
  | _, [] => []
  | k, some cs :: os => homesC k 0 cs ++ homesO (k + 1) os
  | k, none :: os => homesO (k + 1) os
def nubOwn : List (Nat × Nat) → List (Nat × Nat) → List (Nat × Nat)
  | acc, [] => acc
  | acc, p :: ps => bif acc.any (·.2 == p.2) then nubOwn acc ps else nubOwn (p :: acc) ps
def reownBy (A : AS) (ps : List (Nat × Nat)) : AS :=
  bif A.stk.isEmpty && (nodupB (ps.map (·.1)) && nodupB (ps.map (·.2))) then A.map (C.reOwn ps) else A
def reown (kb : Nat) (A : AS) : AS := reownBy A (nubOwn [] (homesT kb 0 A.tm ++ homesO 0 A.ob))
def canon0 (m kb : Nat) (A : AS) : AS :=
  let A := { A with tm := maskTm m 0 A.tm }
  let ks := (List.range (A.ob.length - kb)).map (kb + ·)
  let A := (A.gc ks).gc ks
  { A with ob := trim A.ob }

def canon (m kb : Nat) (A : AS) : AS := reown kb (canon0 m kb A)

def loopN {R : Type} (m kb : Nat) (st : AS → (Ex → AS → Option R) → Option R) : Nat → AS → (Ex → AS → Option R) → Option R
  | 0, _, _ => none
  | n + 1, A, K => st A fun ex A' => match ex with
    | .normal => loopN m kb st n (canon m kb A') K
    | ex => K ex A'

/-- The order in which a region is looked at that may be carried out in several. -/
abbrev Dr := Array Oper → Option (List (Nat × Nat))
/-- What a loop comes to. -/
abbrev Lh := (R : Type) → AS → (Ex → AS → Option R) → Option R
abbrev Lp := Nat → Option Lh
def firstId : Code → Nat
  | .region i _ _ => i + 1
  | .seq a b => match firstId a with
    | 0 => firstId b
    | n => n
  | .cond _ a b => match firstId a with
    | 0 => firstId b
    | n => n
  | .block _ b => firstId b
  | .loop b => 1000000 + firstId b
  | _ => 0
def ev (tt : TT) (hd : Hd) (okDraw : Dr) (lp : Lp) (kb lr : Nat) {R : Type} : Code → Nat → List (Nat × Nat) → AS → (Ex → AS → Option R) → Option R
  | .skip, _, _, A, K => K .normal A
  | .label _, _, _, A, K => K .normal A
  | .region _ ops draw, _, _, A, K => bif draw then (match okDraw ops with | some is => evD tt hd kb ops is [] A K | none => none) else evOps tt hd kb ops (List.range ops.size) A K
  | .seq a b, l, x, A, K => ev tt hd okDraw lp kb lr a (live lr b l x) x A fun ex A' => match ex with
    | .normal => ev tt hd okDraw lp kb lr b l x A' K
    | ex => K ex A'
  | .cond c t e, l, x, A, K => match opd A c with
    | .one (.bool b) => bif b then ev tt hd okDraw lp kb lr t l x A K else ev tt hd okDraw lp kb lr e l x A K
    | _ => none
  | .block id b, l, x, A, K => ev tt hd okDraw lp kb lr b l ((id, l) :: x) A fun ex A' => match ex with
    | .exit id' => bif id' == id then K .normal A' else K (.exit id') A'
    | ex => K ex A'
  | .loop b, _, x, A, K => match lp (firstId b) with
    | some h => h R (canon (live lr b 0 x) kb A) K
    | none => none
  | .exit id, _, _, A, K => K (.exit id) A
  | .ret, _, _, A, K => K .ret A
  | _, _, _, _, _ => none
/-- The loops that ev meets: what is read later, the body, the blocks around it. -/
def loopsOf (lr : Nat) : Code → Nat → List (Nat × Nat) → List (Nat × Code × List (Nat × Nat))
  | .seq a b, l, x => loopsOf lr a (live lr b l x) x ++ loopsOf lr b l x
  | .cond _ t e, l, x => loopsOf lr t l x ++ loopsOf lr e l x
  | .block id b, l, x => loopsOf lr b l ((id, l) :: x)
  | .loop b, _, x => [(live lr b 0 x, b, x)]
  | _, _, _ => []

end
end Go.Proofs.Ytnppjkijhcampaa.Sym
