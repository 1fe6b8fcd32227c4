/- A part of the proof: symbolic evaluation of the program's functions, proved sound against the model; no condition. -/
/-
  The framework 'Ev', part B: the evaluator of the intermediate code over a symbolic state.
  Conditions: none; this text only defines.
-/
import Derived.Test.YteakklbbdfgbdaaEvA
namespace Go.Ev
open Go Go.RowKit

/-- A value, read under a path of guards: one that is there only under guards must have them among these. -/
def gv (p : List (Nat × Bool)) : AV → Option AV
  | .gd q v => match q.all (fun x => p.contains x) with
    | true => some v
    | false => none
  | .int k n => some (.int k n)
  | .bool b => some (.bool b)
  | .str s => some (.str s)
  | .agg cs => some (.agg cs)
  | .tup vs => some (.tup vs)
  | .lst z es => some (.lst z es)
  | .ep z es i o => some (.ep z es i o)
  | .ptr r o => some (.ptr r o)
  | .ap r o n i => some (.ap r o n i)
  | .vw r z l h => some (.vw r z l h)
  | .bp r z i o => some (.bp r z i o)
  | .fr i t z es => some (.fr i t z es)
  | .sv r z l h => some (.sv r z l h)
  | .fp i cs => some (.fp i cs)
  | .nb e => some (.nb e)
  | .fn f => some (.fn f)
  | .nil => some .nil
  | .junk => some .junk

/-- Behind a region: what was there only under guards is forgotten. -/
def ungd : AV → AV
  | .gd _ _ => .junk
  | .int k n => .int k n
  | .bool b => .bool b
  | .str s => .str s
  | .agg cs => .agg cs
  | .tup vs => .tup vs
  | .lst z es => .lst z es
  | .ep z es i o => .ep z es i o
  | .ptr r o => .ptr r o
  | .ap r o n i => .ap r o n i
  | .vw r z l h => .vw r z l h
  | .bp r z i o => .bp r z i o
  | .fr i t z es => .fr i t z es
  | .sv r z l h => .sv r z l h
  | .fp i cs => .fp i cs
  | .nb e => .nb e
  | .fn f => .fn f
  | .nil => .nil
  | .junk => .junk

/-- No struct, no tuple, no guarded value. -/
def AV.atom : AV → Bool
  | .agg _ | .tup _ | .gd _ _ => false
  | _ => true
/-- A struct or an atom. -/
def AV.lev1 : AV → Bool
  | .tup _ | .gd _ _ => false
  | _ => true

/-- The block that an atom refers to. -/
def AV.rid : AV → Option Nat
  | .ptr r _ | .ap r _ _ _ | .vw r _ _ _ | .sv r _ _ _ | .bp r _ _ _ => some r
  | _ => none

structure St where
  s : Nat → AV
  m : Nat → Option Blk

def upd (s : Nat → AV) (d : Nat) (v : AV) : Nat → AV := fun k => if k = d then v else s k
def updM (m : Nat → Option Blk) (r : Nat) (b : Option Blk) : Nat → Option Blk := fun k => if k = r then b else m k

/-- A value that refers to block r is forgotten: an atom; a struct; a tuple; any value. -/
def kill0 (r : Nat) : AV → AV
  | .ptr r' o => if r' = r then .junk else .ptr r' o
  | .ap r' o n i => if r' = r then .junk else .ap r' o n i
  | .vw r' z l h => if r' = r then .junk else .vw r' z l h
  | .sv r' z l h => if r' = r then .junk else .sv r' z l h
  | .bp r' z i o => if r' = r then .junk else .bp r' z i o
  | .fr i t z es => .fr i t z es
  | .fp i cs => .fp i cs
  | .nb e => .nb e
  | .int k n => .int k n
  | .bool b => .bool b
  | .str s => .str s
  | .agg cs => .agg cs
  | .tup vs => .tup vs
  | .lst z es => .lst z es
  | .ep z es i o => .ep z es i o
  | .fn f => .fn f
  | .nil => .nil
  | .gd c v => .gd c v
  | .junk => .junk
def kill1 (r : Nat) : AV → AV
  | .agg cs => .agg (cs.map (kill0 r))
  | x => kill0 r x
def kill2 (r : Nat) : AV → AV
  | .tup vs => .tup (vs.map (kill1 r))
  | x => kill1 r x
def kill3 (r : Nat) : AV → AV
  | .gd c v => .gd c (kill2 r v)
  | x => kill2 r x
def killB (r : Nat) : Blk → Blk
  | .cells cs => .cells (cs.map (kill0 r))
  | .buf t z es => .buf t z es
  | .qb t z es => .qb t z es
  | .ms n ks => .ms n ks
  | .clo f z es i o => .clo f z es i o
  | .dead => .dead

def killS (r : Nat) (s : Nat → AV) : Nat → AV := fun k => kill3 r (s k)
def killM (r : Nat) (m : Nat → Option Blk) : Nat → Option Blk := fun k => match m k with
  | none => none
  | some b => some (killB r b)
def ungdS (s : Nat → AV) : Nat → AV := fun k => ungd (s k)

/-- The outcome of an operation: what it asks, what is known behind it, its value, the blocks written anew (of the kept ones), a block made anew (its number is the slot's), the blocks that it looks at. -/
structure Res where
  pre : List Prop
  post : List Prop
  val : AV
  ups : List (Nat × Blk)
  new : Option (Nat × Blk)
  tch : List Nat

def Res.q (v : AV) : Option Res := some ⟨[], [], v, [], none, []⟩
def Res.qp (p : Prop) (v : AV) : Option Res := some ⟨[p], [], v, [], none, []⟩

def ar (σ : St) : A → AV
  | .t n => σ.s n
  | .c v => v
/-- An operand under a path of guards. -/
def av (σ : St) (p : List (Nat × Bool)) (x : A) : Option AV := gv p (ar σ x)
def avs (σ : St) (p : List (Nat × Bool)) : List A → Option (List AV)
  | [] => some []
  | x :: xs => match av σ p x, avs σ p xs with
    | some v, some vs => some (v :: vs)
    | _, _ => none

/-! ### The operations on values -/

def bitsI (op : BinOp) (k : IntKind) (x y : Int) : Int :=
  k.wrap (match op with
    | .and => (BitVec.ofInt k.bits x &&& BitVec.ofInt k.bits y)
    | .or => (BitVec.ofInt k.bits x ||| BitVec.ofInt k.bits y)
    | .xor => (BitVec.ofInt k.bits x ^^^ BitVec.ofInt k.bits y)
    | _ => (BitVec.ofInt k.bits x &&& ~~~ BitVec.ofInt k.bits y)).toNat

def arithR (op : BinOp) : AV → AV → Option Res
  | .int k a, .int k' b => if k = k' then match op with
    | .add => Res.q (.int k (k.wrap (a + b)))
    | .sub => Res.q (.int k (k.wrap (a - b)))
    | .mul => Res.q (.int k (k.wrap (a * b)))
    | .quo => Res.qp (b ≠ 0) (.int k (k.wrap (a.tdiv b)))
    | .rem => Res.qp (b ≠ 0) (.int k (a.tmod b))
    | .and => Res.q (.int k (bitsI .and k a b))
    | .or => Res.q (.int k (bitsI .or k a b))
    | .xor => Res.q (.int k (bitsI .xor k a b))
    | .andNot => Res.q (.int k (bitsI .andNot k a b))
    | _ => none
    else none
  | _, _ => none

def cmpR (op : BinOp) : Nat → AV → AV → Option AV
  | 0, .int k a, .int k' b => if k = k' then match op with
    | .eql => some (.bool (decide (a = b)))
    | .neq => some (.bool (!decide (a = b)))
    | .lss => some (.bool (decide (a < b)))
    | .leq => some (.bool (decide (a ≤ b)))
    | .gtr => some (.bool (decide (b < a)))
    | .geq => some (.bool (decide (b ≤ a)))
    | _ => none
    else none
  | 1, .bool a, .bool b => match op with
    | .eql => some (.bool (a == b))
    | .neq => some (.bool (!(a == b)))
    | _ => none
  | 2, .str a, .str b => match op with
    | .eql => some (.bool (decide (a = b)))
    | .neq => some (.bool (!decide (a = b)))
    | _ => none
  | _, _, _ => none

/-- Are two lists of cells equal, cell by cell? The list of numbers says what kind each cell is. -/
def eqCells : List Nat → List AV → List AV → Option Bool
  | [], [], [] => some true
  | 0 :: sh, .int k a :: xs, .int k' b :: ys => if k = k' then (eqCells sh xs ys).map (decide (a = b) && ·) else none
  | 1 :: sh, .bool a :: xs, .bool b :: ys => (eqCells sh xs ys).map ((a == b) && ·)
  | 2 :: sh, .str a :: xs, .str b :: ys => (eqCells sh xs ys).map (decide (a = b) && ·)
  | _, _, _ => none

def eqaR (neg : Bool) (sh : List Nat) : AV → AV → Option AV
  | .agg xs, .agg ys => match eqCells sh xs ys with
    | some b => some (.bool (match neg with | true => !b | false => b))
    | none => none
  | _, _ => none

def slotOf : A → Option Nat
  | .t n => some n
  | .c _ => none
def pickV : AV → AV → AV → Option Res
  | .bool c, .bool a, .bool b => Res.q (.bool (bif c then a else b))
  | _, _, _ => none

def minmaxR (mx : Bool) : AV → AV → Option AV
  | .int k x, .int k' y => if k = k' then some (.int k (match mx with | true => if y > x then y else x | false => if y < x then y else x)) else none
  | _, _ => none
def minmaxL (mx : Bool) : AV → List AV → Option AV
  | v, [] => some v
  | v, x :: xs => match minmaxR mx v x with
    | some v' => minmaxL mx v' xs
    | none => none

/-- The cells of a value as a variable of n cells takes them. -/
def cellsOfAV (n : Nat) : AV → Option (List AV)
  | .agg cs => if cs.length = n then some cs else none
  | .tup _ => none
  | .gd _ _ => none
  | .junk => none
  | v => if n = 1 then some [v] else none

/-- n cells from a place on, as a value. -/
def valOf (ag : Bool) (n : Nat) (cs : List AV) (off : Nat) : Option AV :=
  match ag with
  | true => if off + n ≤ cs.length then some (.agg ((cs.drop off).take n)) else none
  | false => match n with
    | 1 => cs[off]?
    | _ => none

/-- Cells written over from a place on. -/
def setCells : List AV → Nat → List AV → List AV
  | cs, _, [] => cs
  | cs, off, v :: vs => setCells (cs.set off v) (off + 1) vs

/-- Element i of a list of elements; behind the end the zero element. -/
def getE (z : List AV) (es : List (List AV)) (i : Nat) : List AV := es.getD i z

/-- The cells of the parts of a literal. -/
def fillA (σ : St) (p : List (Nat × Bool)) : List AV → List (Nat × Nat × A) → Option (List AV)
  | cs, [] => some cs
  | cs, (off, n, x) :: ps => match av σ p x with
    | some v => match cellsOfAV n v with
      | some vs => if off + n ≤ cs.length then fillA σ p (setCells cs off vs) ps else none
      | none => none
    | none => none

/-- Nothing in it refers to a block that is kept track of. -/
def AV.clean0 : AV → Bool
  | .int _ _ | .bool _ | .str _ | .lst _ _ | .fn _ | .nil | .ep _ _ _ _ => true
  | _ => false
def AV.clean1 : AV → Bool
  | .agg cs => cs.all AV.clean0
  | x => x.clean0
def AV.clean2 : AV → Bool
  | .tup vs => vs.all AV.clean1
  | x => x.clean1

/-- The elements of a slice's literal. -/
def fillS (σ : St) (p : List (Nat × Bool)) (n : Nat) : List (List AV) → List (Nat × A) → Option (List (List AV))
  | es, [] => some es
  | es, (i, x) :: ps => match av σ p x with
    | some v => match cellsOfAV n v with
      | some vs => if i < es.length ∧ vs.all AV.clean0 = true then fillS σ p n (es.set i vs) ps else none
      | none => none
    | none => none

/-- A contract: does it take a pointer to a kept block first; what it asks, yields and leaves there. The other kind says only that there is some outcome of a family, and may hand back blocks of its own. -/
inductive Ctr where
  | mk (st : Bool) (fn : List AV → List AV → Option (Prop × AV × List AV))
  | ext (st : Bool) (ι : Type) (fn : List AV → List AV → Option (Prop × (ι → Prop × AV × List AV)))
  /-- a slice of its own is handed back -/
  | own (T : Nat) (z : List AV) (fn : List AV → Option (Prop × List (List AV)))

/-- No list of cells behind it. -/
def AV.flat0 : AV → Bool
  | .int _ _ | .bool _ | .str _ | .fn _ | .nil => true
  | _ => false
def AV.flat1 : AV → Bool
  | .agg cs => cs.all AV.flat0
  | x => x.flat0
def AV.flat2 : AV → Bool
  | .tup vs => vs.all AV.flat1
  | x => x.flat1

/-- A buffer that is handed to a reader: what it holds; its number. -/
def lendB (r : Nat) : Option Blk → Option (AV × List Nat)
  | some (.buf _ z es) => some (.lst z es, [r])
  | _ => none
def lendP (r sz lo hi : Nat) : Option Blk → Option (AV × List Nat)
  | some (.buf _ z es) => match z.length == sz with
    | true => some (.lst z ((es.drop lo).take (hi - lo)), [r])
    | false => none
  | _ => none
def lendA (m : Nat → Option Blk) : AV → Option (AV × List Nat)
  | .vw r _ _ _ => lendB r (m r)
  | .sv r sz lo hi => lendP r sz lo hi (m r)
  | .int k n => some (.int k n, [])
  | .bool b => some (.bool b, [])
  | .str s => some (.str s, [])
  | .lst z es => some (.lst z es, [])
  | .fn f => some (.fn f, [])
  | .nil => some (.nil, [])
  | .ep z es i o => some (.ep z es i o, [])
  | _ => none
def consL : Option (AV × List Nat) → Option (List AV × List Nat) → Option (List AV × List Nat)
  | some (v, b), some (vs, bs) => some (v :: vs, b ++ bs)
  | _, _ => none
def lendC (m : Nat → Option Blk) : List AV → Option (List AV × List Nat)
  | [] => some ([], [])
  | x :: xs => consL (lendA m x) (lendC m xs)
def aggL : Option (List AV × List Nat) → Option (AV × List Nat)
  | some (cs, b) => some (.agg cs, b)
  | none => none
def lend1 (m : Nat → Option Blk) : AV → Option (AV × List Nat)
  | .agg cs => aggL (lendC m cs)
  | x => lendA m x
def lends (m : Nat → Option Blk) : List AV → Option (List AV × List Nat)
  | [] => some ([], [])
  | x :: xs => consL (lend1 m x) (lends m xs)
/-- What is lent may be taken back: nothing of it is handed back. -/
def backOK (bs : List Nat) (f : Bool) : Bool := match bs with
  | [] => true
  | _ :: _ => f

/-- The outcome of a call, by its contract. -/
def callP (t : List Nat) (bs : List Nat) : Option (Prop × AV × List AV) → Option Res
  | some (q, r, _) => match r.clean2 && backOK bs r.flat2 with
      | true => some ⟨[q], [], r, [], none, t ++ bs⟩
      | false => none
  | none => none
def callS (r : Nat) (bs : List Nat) : Option (Prop × AV × List AV) → Option Res
  | some (q, v, cs') => match v.clean2 && (cs'.all AV.clean0 && backOK bs (v.flat2 && cs'.all AV.flat0)) with
      | true => some ⟨[q], [], v, [(r, .cells cs')], none, r :: bs⟩
      | false => none
  | none => none
def callN (fn : List AV → List AV → Option (Prop × AV × List AV)) : Option (List AV × List Nat) → Option Res
  | some (vs, bs) => callP [] bs (fn [] vs)
  | none => none
def callB (fn : List AV → List AV → Option (Prop × AV × List AV)) (r : Nat) (cs : List AV) : Option (List AV × List Nat) → Option Res
  | some (vs, bs) => match cs.all AV.clean0 with
    | true => callS r bs (fn cs vs)
    | false => none
  | none => none
def callC (m : Nat → Option Blk) (fn : List AV → List AV → Option (Prop × AV × List AV)) (r : Nat) (vs : List AV) : Option Blk → Option Res
  | some (.cells cs) => callB fn r cs (lends m vs)
  | _ => none
def callR (m : Nat → Option Blk) (C : Option Ctr) (vs : List AV) : Option Res :=
  match C with
  | some (.mk false fn) => callN fn (lends m vs)
  | some (.mk true fn) => match vs with
    | .ptr r 0 :: vs => callC m fn r vs (m r)
    | _ => none
  | _ => none

/-- The elements are flat. -/
def FlatE (es : List (List AV)) : Prop := ∀ e ∈ es, e.all AV.flat0 = true
def backF (bs : List Nat) (es : List (List AV)) : Prop := match bs with
  | [] => True
  | _ :: _ => FlatE es
/-- The outcome of a call that hands back a slice of its own. -/
def ownW (d T : Nat) (z : List AV) (fn : List AV → Option (Prop × List (List AV))) : Option (List AV × List Nat) → Option Res
  | some (vs, bs) => match fn vs with
    | some (q, es) => some ⟨[q, backF bs es], [], .vw (64 * d + 64) 0 0 0, [], some (64 * d + 64, .buf T z es), bs⟩
    | none => none
  | none => none
def callE (d : Nat) (m : Nat → Option Blk) (C : Option Ctr) (vs : List AV) : Option Res := match C with
  | some (.own T z fn) => ownW d T z fn (lends m vs)
  | some (.mk st fn) => callR m (some (.mk st fn)) vs
  | _ => none

def loadR (m : Nat → Option Blk) (n : Nat) (ag : Bool) : AV → Option Res
  | .ptr r o => match m r with
    | some (.cells cs) => match valOf ag n cs o with
      | some v => some ⟨[], [], v, [], none, [r]⟩
      | none => none
    | _ => none
  | .ep z es i o => match valOf ag n (getE z es i) o with
    | some v => Res.q v
    | none => none
  | .bp r sz i o => match m r with
    | some (.buf _ z es) => match z.length == sz, valOf ag n (getE z es i) o with
      | true, some v => some ⟨[i < es.length], [], v, [], none, [r]⟩
      | _, _ => none
    | some (.qb _ z es) => match z.length == sz, valOf ag n (getE z es i) o with
      | true, some v => some ⟨[i < es.length], [], v, [], none, [r]⟩
      | _, _ => none
    | _ => none
  | _ => none

def storeR (m : Nat → Option Blk) (n : Nat) : AV → AV → Option Res
  | .ptr r o, v => match cellsOfAV n v, m r with
    | some vs, some (.cells cs) => if o + n ≤ cs.length then some ⟨[], [], .junk, [(r, .cells (setCells cs o vs))], none, [r]⟩ else none
    | _, _ => none
  | .bp r sz i o, v => match cellsOfAV n v, m r with
    | some vs, some (.buf t z es) => match z.length == sz && (vs.all AV.clean0 && decide (o + n ≤ z.length)) with
      | true => some ⟨[i < es.length], [], .junk, [(r, .buf t z (es.set i (setCells (getE z es i) o vs)))], none, [r]⟩
      | false => none
    | _, _ => none
  | _, _ => none

def lenR : Nat → AV → Option Res
  | 0, .lst _ es => some ⟨[], [es.length ≤ 9223372036854775807], .int .i64 es.length, [], none, []⟩
  | 0, .nil => Res.q (.int .i64 0)
  | 0, .sv _ _ lo hi => some ⟨[], [hi - lo ≤ 9223372036854775807], .int .i64 ((hi - lo : Nat) : Int), [], none, []⟩
  | 1, .str s => Res.q (.int .i64 s.length)
  | _, _ => none

def iaddrSR (zero : List AV) : AV → AV → Option Res
  | .lst z es, .int _ n => if z.length = zero.length then some ⟨[0 ≤ n ∧ n < es.length], [es.length ≤ 9223372036854775807], .ep zero es n.toNat 0, [], none, []⟩ else none
  | _, _ => none

def iasV (zero : List AV) (r : Nat) (n : Int) : Option Blk → Option Res
  | some (.qb _ z es) => match z.length == zero.length with
    | true => some ⟨[0 ≤ n ∧ n < es.length], [es.length ≤ 9223372036854775807], .bp r zero.length n.toNat 0, [], none, [r]⟩
    | false => none
  | some (.buf _ z es) => match z.length == zero.length with
    | true => some ⟨[0 ≤ n ∧ n < es.length], [es.length ≤ 9223372036854775807], .bp r zero.length n.toNat 0, [], none, [r]⟩
    | false => none
  | _ => none
def iasP (zero : List AV) (r sz lo hi : Nat) (n : Int) : Option Blk → Option Res
  | some (.buf _ z es) => match z.length == zero.length && z.length == sz with
    | true => some ⟨[0 ≤ n ∧ n < ((hi - lo : Nat) : Int) ∧ lo ≤ hi ∧ hi ≤ es.length], [], .bp r zero.length (lo + n.toNat) 0, [], none, [r]⟩
    | false => none
  | _ => none
def iaddrSM (m : Nat → Option Blk) (zero : List AV) : AV → AV → Option Res
  | .vw r _ _ _, .int _ n => iasV zero r n (m r)
  | .sv r sz lo hi, .int _ n => iasP zero r sz lo hi n (m r)
  | x, i => iaddrSR zero x i

/-- The place of an element; at an index that need not be a constant. -/
def sel (n : Nat) (j : Int) : Nat := if j.toNat < n then j.toNat else 0
def iaddrAR (n sz : Nat) : AV → A → AV → Option Res
  | .ptr r o, .c (.int _ j), _ => Res.qp (0 ≤ j ∧ j < n) (.ptr r (o + j.toNat * sz))
  | .ptr r o, .t _, .int _ j => Res.qp (0 ≤ j ∧ j < n) (.ptr r (o + sel n j * sz))
  | _, _, _ => none

def faddrR (off : Nat) : AV → Option Res
  | .ptr r o => Res.q (.ptr r (o + off))
  | .ep z es i o => Res.q (.ep z es i (o + off))
  | .bp r sz i o => Res.q (.bp r sz i (o + off))
  | _ => none

def un1 : IOp → AV → Option Res
  | .mov _, v => Res.q v
  | .not _, .bool b => Res.q (.bool !b)
  | .neg _, .int k n => Res.q (.int k (k.wrap (0 - n)))
  | .conv k _, .int _ n => Res.q (.int k (k.wrap n))
  | .extract i _, .tup vs => match vs[i]? with
    | some v => Res.q v
    | none => none
  | .nilchk _, .ptr r o => Res.q (.ptr r o)
  | _, _ => none

def toR : Option AV → Option Res
  | some v => Res.q v
  | none => none

def bind1 (x : Option AV) (f : AV → Option Res) : Option Res := match x with
  | some v => f v
  | none => none
def bind2 (x y : Option AV) (f : AV → AV → Option Res) : Option Res := match x, y with
  | some v, some w => f v w
  | _, _ => none

def boxR (n d : Nat) (v : AV) : Option Res := match cellsOfAV n v with
  | some cs => some ⟨[], [], .ptr ((64 * d + 64)) 0, [], some ((64 * d + 64), .cells cs), []⟩
  | none => none

def lenV (ty r : Nat) : Option Blk → Option Res
  | some (.qb _ _ es) => match ty with
    | 0 => some ⟨[], [es.length ≤ 9223372036854775807], .int .i64 es.length, [], none, [r]⟩
    | _ => none
  | some (.buf _ _ es) => match ty with
    | 0 => some ⟨[], [es.length ≤ 9223372036854775807], .int .i64 es.length, [], none, [r]⟩
    | _ => none
  | _ => none
def lenM (m : Nat → Option Blk) (ty : Nat) : AV → Option Res
  | .vw r _ _ _ => lenV ty r (m r)
  | v => lenR ty v
/-- The elements that are appended, and the buffers looked at. -/
def ysP (k r sz lo hi : Nat) : Option Blk → Option (List (List AV) × List Nat)
  | some (.buf _ z es) => match z.length == k && z.length == sz with
    | true => some ((es.drop lo).take (hi - lo), [r])
    | false => none
  | _ => none
def ysOf (m : Nat → Option Blk) (k : Nat) : AV → Option (List (List AV) × List Nat)
  | .sv r sz lo hi => ysP k r sz lo hi (m r)
  | .nil => some ([], [])
  | .lst z es => if z.length = k then some (es, []) else none
  | .vw r _ _ _ => match m r with
    | some (.buf _ z es) => if z.length = k then some (es, [r]) else none
    | _ => none
  | _ => none
/-- What is appended to: the buffer's number, its elements. -/
def baseOf (m : Nat → Option Blk) (e k d : Nat) : AV → Option (Nat × List (List AV) × List Nat)
  | .nil => some ((64 * d + 64), [], [])
  | .vw r _ _ _ => match m r with
    | some (.buf t z es) => if t = e ∧ z.length = k ∧ 64 ≤ r then some (r, es, [r]) else none
    | _ => none
  | _ => none
def appR (m : Nat → Option Blk) (e bytes : Nat) (z : List AV) (d : Nat) (x y : AV) : Option Res :=
  match baseOf m e z.length d x, ysOf m z.length y with
  | some (i, es, t), some (ys, t') => some ⟨[es.length + ys.length ≤ 9223372036854775807, (es.length + ys.length) * bytes ≤ 140737488355328], [], .vw i 0 0 0, [], some (i, .buf e z (es ++ ys)), t ++ t'⟩
  | _, _ => none

/-- An append to a row of which the slice sees a part. -/
def appQ (e bytes : Nat) (z : List AV) (r : Nat) : Option Blk → Option (List (List AV) × List Nat) → Option Res
  | some (.qb t z' es), some (ys, t') => match decide (t = e ∧ z'.length = z.length ∧ 64 ≤ r) with
    | true => some ⟨[0 < ys.length, es.length + ys.length ≤ 9223372036854775807, (es.length + ys.length) * bytes ≤ 140737488355328], [], .vw r 0 0 0, [], some (r, .qb e z' (es ++ ys)), r :: t'⟩
    | false => none
  | _, _ => none
def isQ (m : Nat → Option Blk) : AV → Option Nat
  | .vw r _ _ _ => match m r with
    | some (.qb _ _ _) => some r
    | _ => none
  | _ => none
def appQR (m : Nat → Option Blk) (e bytes : Nat) (z : List AV) (d : Nat) (x y : AV) : Option Res := match isQ m x with
  | some r => appQ e bytes z r (m r) (ysOf m z.length y)
  | none => appR m e bytes z d x y
/-- What a copy lays over a buffer of its own. -/
def cpB (sz r : Nat) : Option Blk → Option (List (List AV) × List Nat) → Option Res
  | some (.buf t z es), some (ys, t') => match decide (sz = 1 ∧ z.length = 1) with
    | true => some ⟨[], [], .int .i64 ((min ys.length es.length : Nat) : Int), [(r, .buf t z (ys.take es.length ++ es.drop ys.length))], none, r :: t'⟩
    | false => none
  | _, _ => none
def cpR (m : Nat → Option Blk) (sz : Nat) : AV → AV → Option Res
  | .vw r _ _ _, y => cpB sz r (m r) (ysOf m 1 y)
  | _, _ => none

/-- Zero elements appended. -/
def appZR (m : Nat → Option Blk) (e bytes : Nat) (z : List AV) (d : Nat) (x y : AV) : Option Res :=
  match baseOf m e z.length d x, y with
  | some (i, es, t), .int _ n => some ⟨[0 ≤ n, es.length + n.toNat ≤ 9223372036854775807, (es.length + n.toNat) * bytes ≤ 140737488355328], [], .vw i 0 0 0, [], some (i, .buf e z (es ++ List.replicate n.toNat z)), t⟩
  | _, _ => none

/-- The same where the order is drawn: what comes out is a block of its own, and the one appended to is nobody's any more. -/
def appDR (m : Nat → Option Blk) (e bytes : Nat) (z : List AV) (d : Nat) (x y : AV) : Option Res :=
  match x with
  | .nil => appR m e bytes z d x y
  | .vw r _ _ _ => match r == 64 * d + 64, baseOf m e z.length d x, ysOf m z.length y with
    | false, some (_, es, t), some (ys, t') => some ⟨[es.length + ys.length ≤ 9223372036854775807, (es.length + ys.length) * bytes ≤ 140737488355328], [], .vw (64 * d + 64) 0 0 0, [(r, .dead)], some (64 * d + 64, .buf e z (es ++ ys)), t ++ t'⟩
    | _, _, _ => none
  | _ => none
/-- The bytes of a list. -/
def byteOf : List AV → UInt8
  | [.int _ n] => UInt8.ofNat n.toNat
  | _ => 0
def bytesOf (es : List (List AV)) : List UInt8 := es.map byteOf
def ByteE (es : List (List AV)) : Prop := ∀ e ∈ es, ∃ n, e = [.int .u8 n]
def b2sB (r : Nat) : Option Blk → Option Res
  | some (.buf _ z es) => match z.length with
    | 1 => some ⟨[ByteE es], [], .str (bytesOf es), [], none, [r]⟩
    | _ => none
  | _ => none
def b2sP (r sz lo hi : Nat) : Option Blk → Option Res
  | some (.buf _ z es) => match z.length == 1 && sz == 1 with
    | true => some ⟨[ByteE ((es.drop lo).take (hi - lo))], [], .str (bytesOf ((es.drop lo).take (hi - lo))), [], none, [r]⟩
    | false => none
  | _ => none
def b2sR (m : Nat → Option Blk) : AV → Option Res
  | .nil => Res.q (.str [])
  | .lst z es => match z.length with
    | 1 => some ⟨[ByteE es], [], .str (bytesOf es), [], none, []⟩
    | _ => none
  | .vw r _ _ _ => b2sB r (m r)
  | .sv r sz lo hi => b2sP r sz lo hi (m r)
  | _ => none
def bytesE (s : List UInt8) : List (List AV) := s.map fun b => [.int .u8 (b.toNat : Int)]
def s2bR : AV → Option Res
  | .str s => some ⟨[s.length ≤ 9223372036854775807], [], .lst [.int .u8 0] (bytesE s), [], none, []⟩
  | _ => none
def idxSR : AV → AV → Option Res
  | .str s, .int _ n => some ⟨[0 ≤ n ∧ n < s.length], [], .int .u8 ((s.getD n.toNat 0).toNat : Int), [], none, []⟩
  | _, _ => none
/-- A slice's part: bounds that are not there are none. -/
def boundA (σ : St) (p : List (Nat × Bool)) : Option A → Option (Option AV)
  | none => some none
  | some x => (av σ p x).map some
def loOf : Option AV → Option Int
  | none => some 0
  | some (.int _ n) => some n
  | _ => none
def hiOf (len : Nat) : Option AV → Option Int
  | none => some len
  | some (.int _ n) => some n
  | _ => none
def slB (r sz : Nat) (lo hi : Option AV) : Option Blk → Option Res
  | some (.buf _ z es) => match loOf lo, hiOf es.length hi, z.length == sz with
    | some l, some h, true => some ⟨[0 ≤ l ∧ l ≤ h ∧ h ≤ es.length], [], .sv r sz l.toNat h.toNat, [], none, [r]⟩
    | _, _, _ => none
  | _ => none
def slP (r sz a b : Nat) (lo hi : Option AV) : Option Blk → Option Res
  | some (.buf _ z es) => match loOf lo, hiOf (b - a) hi, z.length == sz with
    | some l, some h, true => some ⟨[0 ≤ l ∧ l ≤ h ∧ h ≤ ((b - a : Nat) : Int)], [], .sv r sz (a + l.toNat) (a + h.toNat), [], none, [r]⟩
    | _, _, _ => none
  | _ => none
def sliceR (m : Nat → Option Blk) (sz : Nat) (x : AV) (lo hi : Option AV) : Option Res :=
  match x with
  | .lst z es => match loOf lo, hiOf es.length hi, z.length == sz with
    | some l, some h, true => some ⟨[0 ≤ l ∧ l ≤ h ∧ h ≤ es.length], [], .lst z ((es.drop l.toNat).take (h.toNat - l.toNat)), [], none, []⟩
    | _, _, _ => none
  | .nil => match loOf lo, hiOf 0 hi with
    | some l, some h => some ⟨[l = 0 ∧ h = 0], [], .nil, [], none, []⟩
    | _, _ => none
  | .vw r _ _ _ => slB r sz lo hi (m r)
  | .sv r sz' a b => match sz' == sz with
    | true => slP r sz a b lo hi (m r)
    | false => none
  | _ => none
def sliceO (m : Nat → Option Blk) (sz : Nat) : Option AV → Option (Option AV) → Option (Option AV) → Option Res
  | some x, some lo, some hi => sliceR m sz x lo hi
  | _, _, _ => none
/-- The head of such a row is let go. -/
def slQ (sz r : Nat) : Option (Option AV) → Option (Option AV) → Option Blk → Option Res
  | some lo, some none, some (.qb t z es) => match loOf lo, z.length == sz && decide (64 ≤ r) with
    | some l, true => some ⟨[0 ≤ l ∧ l ≤ es.length], [], .vw r 0 0 0, [], some (r, .qb t z (es.drop l.toNat)), [r]⟩
    | _, _ => none
  | _, _, _ => none
def sliceQ (m : Nat → Option Blk) (sz : Nat) (x : Option AV) (lo hi : Option (Option AV)) : Option Res := match x with
  | some x => match isQ m x with
    | some r => slQ sz r lo hi (m r)
    | none => sliceO m sz (some x) lo hi
  | none => none
def mkR (e bytes : Nat) (z : List AV) (d : Nat) : AV → AV → Option Res
  | .int _ l, .int _ c => some ⟨[0 ≤ l ∧ l ≤ c ∧ (bytes : Int) * c ≤ 281474976710656 ∧ c ≤ 9223372036854775807], [], .vw ((64 * d + 64)) 0 0 0, [], some ((64 * d + 64), .buf e z (List.replicate l.toNat z)), []⟩
  | _, _ => none
/-- A made slice that is nobody's own. -/
def mkFR (bytes : Nat) (z : List AV) : AV → AV → Option Res
  | .int _ l, .int _ c => some ⟨[0 ≤ l ∧ l ≤ c ∧ (bytes : Int) * c ≤ 281474976710656 ∧ c ≤ 9223372036854775807], [], .lst z (List.replicate l.toNat z), [], none, []⟩
  | _, _ => none
def fldR (off n : Nat) (ag : Bool) : AV → Option Res
  | .agg cs => match valOf ag n cs off with
    | some v => Res.q v
    | none => none
  | _ => none
/-- An element of an array of whole numbers. -/
def idxVR (n sz : Nat) (ag : Bool) : AV → A → Option Res
  | .agg cs, .c (.int _ j) => match valOf ag sz cs (j.toNat * sz) with
    | some v => some ⟨[0 ≤ j ∧ j < n], [], v, [], none, []⟩
    | none => none
  | _, _ => none

/-- Is a slice nil? One without elements may be. -/
def nilV (neg : Bool) (r : Nat) : Option Blk → Option Res
  | some (.buf _ _ es) => match neg with
    | false => some ⟨[], [], .nb es.isEmpty, [], none, [r]⟩
    | true => none
  | _ => none
def nilR (m : Nat → Option Blk) (neg : Bool) : AV → Option Res
  | .nil => Res.q (.bool !neg)
  | .lst _ es => match neg with
    | false => Res.q (.nb es.isEmpty)
    | true => none
  | .vw r _ _ _ => nilV neg r (m r)
  | _ => none
def shR (left : Bool) (n : Nat) : AV → Option Res
  | .int k a => match left, decide (n ≤ k.bits) with
    | true, true => Res.q (.int k (k.wrap (a * 2 ^ n)))
    | false, true => Res.q (.int k (a.fdiv (2 ^ n)))
    | _, false => none
  | _ => none
/-- A key of a map. -/
def keyA : Nat → AV → Option (List Int)
  | 0, .int .u8 a => some [a]
  | 2, .agg [.int .i64 a, .int .i64 b] => some [a, b]
  | _, _ => none
def lookM1 (n r : Nat) (k : Option (List Int)) : Option Blk → Option Res
  | some (.ms n' ks) => match n' == n, k with
    | true, some k => some ⟨[], [], .bool (decide (k ∈ ks)), [], none, [r]⟩
    | _, _ => none
  | _ => none
def lookR (m : Nat → Option Blk) (n : Nat) : AV → AV → Option Res
  | .ap r _ _ _, i => lookM1 n r (keyA n i) (m r)
  | _, _ => none
def putM1 (n r : Nat) (k : Option (List Int)) : Option Blk → Option Res
  | some (.ms n' ks) => match n' == n, k with
    | true, some k => some ⟨[k ∉ ks], [], .junk, [(r, .ms n (k :: ks))], none, [r]⟩
    | _, _ => none
  | _ => none
def putR (m : Nat → Option Blk) (n : Nat) : AV → AV → Option Res
  | .ap r _ _ _, i => putM1 n r (keyA n i) (m r)
  | _, _ => none
/-- A function value that captures a pointer to a row that nobody writes. -/
def cloR (f d : Nat) : AV → Option Res
  | .ep z es i o => some ⟨[], [], .ap (64 * d + 64) 0 0 0, [], some (64 * d + 64, .clo f z es i o), []⟩
  | _ => none
def tchR (r : Nat) : Option Res → Option Res
  | some ⟨pre, post, v, [], none, t⟩ => some ⟨pre, post, v, [], none, r :: t⟩
  | _ => none
def cloV (Φ : Nat → Option Ctr) (m : Nat → Option Blk) (fs : List Nat) (r : Nat) (vs : List AV) : Option Blk → Option Res
  | some (.clo f z es i o) => match fs.contains f with
    | true => tchR r (callR m (Φ f) (vs ++ [.ep z es i o]))
    | false => none
  | _ => none
/-- One operation, under a path of guards. -/
def evOp (Φ : Nat → Option Ctr) (io : IOp) (d : Nat) (p : List (Nat × Bool)) (σ : St) : Option Res :=
  match io with
  | .mov x => bind1 (av σ p x) (un1 (.mov x))
  | .not x => bind1 (av σ p x) (un1 (.not x))
  | .neg x => bind1 (av σ p x) (un1 (.neg x))
  | .conv k x => bind1 (av σ p x) (un1 (.conv k x))
  | .extract i x => bind1 (av σ p x) (un1 (.extract i x))
  | .nilchk x => bind1 (av σ p x) (un1 (.nilchk x))
  | .pick c a b => match slotOf c with
    | some k => bind1 (av σ p c) fun vc => bind2 (av σ (p ++ [(k, true)]) a) (av σ (p ++ [(k, false)]) b) (pickV vc)
    | none => none
  | .arith op x y => bind2 (av σ p x) (av σ p y) (arithR op)
  | .cmp op ty x y => bind2 (av σ p x) (av σ p y) fun v w => toR (cmpR op ty v w)
  | .eqa neg sh x y => bind2 (av σ p x) (av σ p y) fun v w => toR (eqaR neg sh v w)
  | .len ty x => bind1 (av σ p x) (lenM σ.m ty)
  | .minmax mx xs => match avs σ p xs with
    | some (.int k n :: vs) => toR (minmaxL mx (.int k n) vs)
    | _ => none
  | .faddr off x => bind1 (av σ p x) (faddrR off)
  | .iaddrS zero x i => bind2 (av σ p x) (av σ p i) (iaddrSM σ.m zero)
  | .iaddrA n sz x i => bind2 (av σ p x) (av σ p i) fun v u => iaddrAR n sz v i u
  | .load n ag x => bind1 (av σ p x) (loadR σ.m n ag)
  | .store n x v => bind2 (av σ p x) (av σ p v) (storeR σ.m n)
  | .alloc z => some ⟨[], [], .ptr ((64 * d + 64)) 0, [], some ((64 * d + 64), .cells z), []⟩
  | .box n x => bind1 (av σ p x) (boxR n d)
  | .build z ps => match fillA σ p z ps with
    | some cs => Res.q (.agg cs)
    | none => none
  | .bslice n z ps => match fillS σ p z.length (List.replicate n z) ps with
    | some es => Res.q (.lst z es)
    | none => none
  | .append e bytes z x y => bind2 (av σ p x) (av σ p y) (appQR σ.m e bytes z d)
  | .appD e bytes z x y => bind2 (av σ p x) (av σ p y) (appDR σ.m e bytes z d)
  | .appZ e bytes z x y => bind2 (av σ p x) (av σ p y) (appZR σ.m e bytes z d)
  | .call f xs => match avs σ p xs with
    | some vs => callE d σ.m (Φ f) vs
    | none => none
  | .callv fs x xs => match av σ p x, avs σ p xs with
    | some (.fn f), some vs => match fs.contains f with
      | true => callR σ.m (Φ f) vs
      | false => none
    | some (.ap r _ _ _), some vs => cloV Φ σ.m fs r vs (σ.m r)
    | _, _ => none
  | .mkmap n => some ⟨[], [], .ap (64 * d + 64) 0 0 0, [], some (64 * d + 64, .ms n []), []⟩
  | .mlook n x i => bind2 (av σ p x) (av σ p i) (lookR σ.m n)
  | .mput n x i => bind2 (av σ p x) (av σ p i) (putR σ.m n)
  | .mkclo f x => bind1 (av σ p x) (cloR f d)
  | .bsliceO e n z ps => match fillS σ p z.length (List.replicate n z) ps with
    | some es => some ⟨[], [], .vw (64 * d + 64) 0 0 0, [], some (64 * d + 64, .buf e z es), []⟩
    | none => none
  | .eqnil neg x => bind1 (av σ p x) (nilR σ.m neg)
  | .shl n x => bind1 (av σ p x) (shR true n)
  | .shr n x => bind1 (av σ p x) (shR false n)
  | .b2s x => bind1 (av σ p x) (b2sR σ.m)
  | .s2b x => bind1 (av σ p x) s2bR
  | .idxS x i => bind2 (av σ p x) (av σ p i) idxSR
  | .idxV n sz ag x i => bind1 (av σ p x) fun v => idxVR n sz ag v i
  | .slice sz x l h => sliceQ σ.m sz (av σ p x) (boundA σ p l) (boundA σ p h)
  | .mkslice e bytes z l c => bind2 (av σ p l) (av σ p c) (mkR e bytes z d)
  | .copy sz x y => bind2 (av σ p x) (av σ p y) (cpR σ.m sz)
  | .mkF bytes z l c => bind2 (av σ p l) (av σ p c) (mkFR bytes z)
  | .fld off n ag x => bind1 (av σ p x) (fldR off n ag)
  | _ => none

/-! ### Guards, regions, code -/

/-- The path of a guarded operation. -/
def pathG (g : Nat) (b : Bool) : AV → Option (List (Nat × Bool))
  | .bool _ => some [(g, b)]
  | .gd q (.bool _) => some (q ++ [(g, b)])
  | _ => none

def boolOf : AV → Option Bool
  | .bool c => some c
  | .gd _ (.bool c) => some c
  | _ => none
/-- A path holds. -/
def pathP (s : Nat → AV) : List (Nat × Bool) → Prop
  | [] => True
  | (g, b) :: p => boolOf (s g) = some b ∧ pathP s p
/-- A path as one Bool. -/
def pathB (s : Nat → AV) : List (Nat × Bool) → Bool
  | [] => true
  | (g, b) :: p => (match boolOf (s g) with
    | some c => c == b
    | none => false) && pathB s p

def mergeA (c : Bool) : AV → AV → Option AV
  | .int k a, .int k' b => if k = k' then some (.int k (bif c then a else b)) else none
  | .bool a, .bool b => some (.bool (bif c then a else b))
  | .lst z es, .lst z' es' => if z.length = z'.length then some (.lst z' (bif c then es else es')) else none
  | _, _ => none
def mergeL (c : Bool) : List AV → List AV → Option (List AV)
  | [], [] => some []
  | x :: xs, y :: ys => match mergeA c x y, mergeL c xs ys with
    | some v, some vs => some (v :: vs)
    | _, _ => none
  | _, _ => none
/-- The blocks behind an operation that may not have run. -/
def mergeU (c : Bool) (m : Nat → Option Blk) : List (Nat × Blk) → Option (List (Nat × Blk))
  | [] => some []
  | (r, .cells cs) :: us => match m r, mergeU c m us with
    | some (.cells cs'), some us' => match mergeL c cs cs' with
      | some cs'' => some ((r, .cells cs'') :: us')
      | none => none
    | _, _ => none
  | _ :: _ => none

def guardL (s : Nat → AV) (p : List (Nat × Bool)) : List Prop → List Prop
  | [] => []
  | q :: qs => (pathP s p → q) :: guardL s p qs

/-- The outcome of a guarded operation, out of that of the operation. -/
def guardR (σ : St) (p : List (Nat × Bool)) (r : Option Res) : Option Res :=
  match r with
  | some ⟨pre, _, v, [], none, t⟩ => some ⟨guardL σ.s p pre, [], .gd p v, [], none, t⟩
  | some ⟨pre, _, v, u :: us, none, t⟩ => match p, mergeU (pathB σ.s p) σ.m (u :: us) with
    | [_], some us' => some ⟨guardL σ.s p pre, [], .gd p v, us', none, t⟩
    | _, _ => none
  | _ => none

/-- An operation with its guard. -/
def evG (Φ : Nat → Option Ctr) (o : RO) (σ : St) : Option Res :=
  match o.guard with
  | none => evOp Φ o.op (o.dst.getD 0) [] σ
  | some (g, b) => match pathG g b (σ.s g) with
    | some p => guardR σ p (evOp Φ o.op (o.dst.getD 0) p σ)
    | none => none

@[simp] def liveB : Blk → Option Blk
  | .cells cs => some (.cells cs)
  | .buf t z es => some (.buf t z es)
  | .qb t z es => some (.qb t z es)
  | .ms n ks => some (.ms n ks)
  | .clo f z es i o => some (.clo f z es i o)
  | .dead => none
def updL (m : Nat → Option Blk) : List (Nat × Blk) → Nat → Option Blk
  | [] => m
  | (r, b) :: us => updL (updM m r (liveB b)) us

/-- The state behind an operation. -/
def St.put (σ : St) : Option Nat → Res → St
  | none, ⟨_, _, _, us, _, _⟩ => ⟨σ.s, updL σ.m us⟩
  | some d, ⟨_, _, v, us, none, _⟩ => ⟨upd σ.s d v, updL σ.m us⟩
  | some d, ⟨_, _, v, us, some (i, b), _⟩ => ⟨upd (killS i σ.s) d v, updM (killM i (updL σ.m us)) i (some (killB i b))⟩

def askL : List Prop → Prop → Prop
  | [], K => K
  | q :: qs, K => q ∧ askL qs K
def knowL : List Prop → Prop → Prop
  | [], K => K
  | q :: qs, K => q → knowL qs K

/-! ### Buffers that are frozen, numbered anew, begun -/
def frz0 (r : Nat) (z : List AV) (es : List (List AV)) : AV → AV
  | .vw r' a b c => if r' = r then .lst z es else .vw r' a b c
  | .sv r' sz lo hi => if r' = r then (if sz = z.length then .lst z ((es.drop lo).take (hi - lo)) else .junk) else .sv r' sz lo hi
  | .int k n => .int k n
  | .bool b => .bool b
  | .str s => .str s
  | .agg cs => .agg cs
  | .tup cs => .tup cs
  | .lst z es => .lst z es
  | .ep z es i o => .ep z es i o
  | .ptr r o => .ptr r o
  | .ap r o n i => .ap r o n i
  | .bp r z i o => .bp r z i o
  | .fr i t z es => .fr i t z es
  | .fp i cs => .fp i cs
  | .nb e => .nb e
  | .fn f => .fn f
  | .nil => .nil
  | .gd c v => .gd c v
  | .junk => .junk
def frz1 (r : Nat) (z : List AV) (es : List (List AV)) : AV → AV
  | .agg cs => .agg (cs.map (frz0 r z es))
  | x => frz0 r z es x
def frz2 (r : Nat) (z : List AV) (es : List (List AV)) : AV → AV
  | .tup vs => .tup (vs.map (frz1 r z es))
  | x => frz1 r z es x
def frz3 (r : Nat) (z : List AV) (es : List (List AV)) : AV → AV
  | .gd c v => .gd c (frz2 r z es v)
  | x => frz2 r z es x
def frzB (r : Nat) (z : List AV) (es : List (List AV)) : Blk → Blk
  | .cells cs => .cells (cs.map (frz0 r z es))
  | .buf t z' es' => .buf t z' es'
  | .qb t z es => .qb t z es
  | .ms n ks => .ms n ks
  | .clo f z es i o => .clo f z es i o
  | .dead => .dead
def frzSl (r : Nat) (z : List AV) (es : List (List AV)) (s : Nat → AV) : Nat → AV := fun k => frz3 r z es (s k)
def frzM (r : Nat) (z : List AV) (es : List (List AV)) (m : Nat → Option Blk) : Nat → Option Blk := fun k => match m k with
  | none => none
  | some b => some (frzB r z es b)
def frzQ (r : Nat) (s : Nat → AV) (m : Nat → Option Blk) : Option Blk → St
  | some (.buf _ z es) => match decide (64 ≤ r) with
    | true => ⟨frzSl r z es s, updM (frzM r z es m) r none⟩
    | false => ⟨s, m⟩
  | _ => ⟨s, m⟩
/-- Buffer r is written no more: what refers to it is a list. -/
def frzS (r : Nat) (σ : St) : St := frzQ r σ.s σ.m (σ.m r)
def frzL : List Nat → St → St
  | [], σ => σ
  | r :: rs, σ => frzL rs (frzS r σ)

/-- A box that is written no more: the pointer in slot k points into a row that nobody writes. -/
def fzB (k r : Nat) (s : Nat → AV) (m : Nat → Option Blk) : Option Blk → St
  | some (.cells cs) => match decide (64 ≤ r) && cs.all AV.clean0 with
    | true => ⟨upd s k (.ep cs [cs] 0 0), updM m r none⟩
    | false => ⟨s, m⟩
  | _ => ⟨s, m⟩
def ghV (k : Nat) (σ : St) (f : St) : AV → St
  | .ptr r 0 => fzB k r σ.s σ.m (σ.m r)
  | _ => f
/-- Buffer k is called R. -/
def ren0 (k R : Nat) : AV → AV
  | .vw r a b c => if r = k then .vw R a b c else .vw r a b c
  | .int k n => .int k n
  | .bool b => .bool b
  | .str s => .str s
  | .agg cs => .agg cs
  | .tup cs => .tup cs
  | .lst z es => .lst z es
  | .ep z es i o => .ep z es i o
  | .ptr r o => .ptr r o
  | .ap r o n i => .ap r o n i
  | .sv r z l h => .sv r z l h
  | .bp r z i o => .bp r z i o
  | .fr i t z es => .fr i t z es
  | .fp i cs => .fp i cs
  | .nb e => .nb e
  | .fn f => .fn f
  | .nil => .nil
  | .gd c v => .gd c v
  | .junk => .junk
def ren1 (k R : Nat) : AV → AV
  | .agg cs => .agg (cs.map (ren0 k R))
  | x => ren0 k R x
def ren2 (k R : Nat) : AV → AV
  | .tup vs => .tup (vs.map (ren1 k R))
  | x => ren1 k R x
def ren3 (k R : Nat) : AV → AV
  | .gd c v => .gd c (ren2 k R v)
  | x => ren2 k R x
def renB (k R : Nat) : Blk → Blk
  | .cells cs => .cells (cs.map (ren0 k R))
  | .buf t z es => .buf t z es
  | .qb t z es => .qb t z es
  | .ms n ks => .ms n ks
  | .clo f z es i o => .clo f z es i o
  | .dead => .dead
def renSl (k R : Nat) (s : Nat → AV) : Nat → AV := fun i => ren3 k R (kill3 R (s i))
def renM (k R : Nat) (m : Nat → Option Blk) : Nat → Option Blk := fun i => match m i with
  | none => none
  | some b => some (renB k R (killB R b))
def renQ (k R : Nat) (s : Nat → AV) (m : Nat → Option Blk) : Option Blk → St
  | some (.buf t z es) => match decide (64 ≤ R) && (decide (64 ≤ k) && !(k == R)) with
    | true => ⟨renSl k R s, updM (updM (renM k R m) k none) R (some (.buf t z es))⟩
    | false => ⟨s, m⟩
  | _ => ⟨s, m⟩
def renS (k R : Nat) (σ : St) : St := renQ k R σ.s σ.m (σ.m k)

/-- A nil slice is a buffer without elements. -/
def nlV (d R T : Nat) (z : List AV) (s : Nat → AV) (m : Nat → Option Blk) : AV → St
  | .nil => match decide (64 ≤ R) && decide (0 < z.length) with
    | true => ⟨upd (killS R s) d (.vw R 0 0 0), updM (killM R m) R (some (.buf T z []))⟩
    | false => ⟨s, m⟩
  | _ => ⟨s, m⟩
def nlS (d R T : Nat) (z : List AV) (σ : St) : St := nlV d R T z σ.s σ.m (σ.s d)
def nlC2 (r i R T : Nat) (z : List AV) (s : Nat → AV) (m : Nat → Option Blk) (cs : List AV) : Option AV → St
  | some .nil => match decide (64 ≤ R) && (decide (0 < z.length) && !(r == R)) with
    | true => ⟨killS R s, updM (updM (killM R m) r (some (.cells ((cs.map (kill0 R)).set i (.vw R 0 0 0))))) R (some (.buf T z []))⟩
    | false => ⟨s, m⟩
  | _ => ⟨s, m⟩
def nlC1 (r i R T : Nat) (z : List AV) (s : Nat → AV) (m : Nat → Option Blk) : Option Blk → St
  | some (.cells cs) => nlC2 r i R T z s m cs cs[i]?
  | _ => ⟨s, m⟩
def nlC (r i R T : Nat) (z : List AV) (σ : St) : St := nlC1 r i R T z σ.s σ.m (σ.m r)

inductive Lk where
  | frz (k : Nat)
  | ren (k R : Nat)
  | nls (d R T : Nat) (z : List AV)
  | nlc (r i R T : Nat) (z : List AV)
def applyK : Lk → St → St
  | .frz k, σ => frzS k σ
  | .ren k R, σ => renS k R σ
  | .nls d R T z, σ => nlS d R T z σ
  | .nlc r i R T z, σ => nlC r i R T z σ
def applyL : List Lk → St → St
  | [], σ => σ
  | l :: ls, σ => applyL ls (applyK l σ)
def renK (k R : Nat) : Bool → List Lk
  | true => []
  | false => [.ren k R]
def nlK (d R : Nat) : Option Blk → List Lk
  | some (.buf T z _) => [.nls d R T z]
  | _ => []
def nlKc (r i R : Nat) : Option Blk → List Lk
  | some (.buf T z _) => [.nlc r i R T z]
  | _ => []
/-- What is to be done so that x may be taken for y: at a slot; in an aggregate; in a kept block. -/
def lk0 (x y : AV) : List Lk := match x, y with
  | .vw k _ _ _, .lst _ _ => [.frz k]
  | .sv k _ _ _, .lst _ _ => [.frz k]
  | .vw k _ _ _, .vw R _ _ _ => renK k R (k == R)
  | _, _ => []
def lkAs : List AV → List AV → List Lk
  | x :: xs, y :: ys => lk0 x y ++ lkAs xs ys
  | _, _ => []
def lk1 (x y : AV) : List Lk := match x, y with
  | .agg xs, .agg ys => lkAs xs ys
  | x, y => lk0 x y
def lkVs : List AV → List AV → List Lk
  | x :: xs, y :: ys => lk1 x y ++ lkVs xs ys
  | _, _ => []
def lkS (B : Nat → Option Blk) (d : Nat) (x y : AV) : List Lk := match x, y with
  | .nil, .vw R _ _ _ => nlK d R (B R)
  | x, y => lk1 x y
def lkC0 (B : Nat → Option Blk) (r i : Nat) (x y : AV) : List Lk := match x, y with
  | .nil, .vw R _ _ _ => nlKc r i R (B R)
  | x, y => lk0 x y
def lkC (B : Nat → Option Blk) (r : Nat) : Nat → List AV → List AV → List Lk
  | i, x :: xs, y :: ys => lkC0 B r i x y ++ lkC B r (i + 1) xs ys
  | _, _, _ => []
def lkB (B : Nat → Option Blk) (r : Nat) : Option Blk → Blk → List Lk
  | some (.cells cs), .cells ds => lkC B r 0 cs ds
  | _, _ => []
def lkL (B : Nat → Option Blk) (s : Nat → AV) : List (Nat × AV) → List Lk
  | [] => []
  | (d, v) :: l => lkS B d (s d) v ++ lkL B s l
def lkM (B : Nat → Option Blk) (m : Nat → Option Blk) : List (Nat × Blk) → List Lk
  | [] => []
  | (r, b) :: l => lkB B r (m r) b ++ lkM B m l

/-! ### Calls with an outcome of a family -/
def unfr0 (d : Nat) : AV → AV
  | .fr j _ _ _ => .vw ((64 * d + 64) + j) 0 0 0
  | .fp j _ => .ptr ((64 * d + 64) + j) 0
  | .int k n => .int k n
  | .bool b => .bool b
  | .str s => .str s
  | .lst z es => .lst z es
  | .fn f => .fn f
  | .nil => .nil
  | _ => .junk
def unfr1 (d : Nat) : AV → AV
  | .agg cs => .agg (cs.map (unfr0 d))
  | x => unfr0 d x
def unfr2 (d : Nat) : AV → AV
  | .tup vs => .tup (vs.map (unfr1 d))
  | x => unfr1 d x
def frs0 : AV → List (Nat × Blk)
  | .fr j t z es => [(j, .buf t z es)]
  | .fp j cs => [(j, .cells cs)]
  | _ => []
def frsL : List AV → List (Nat × Blk)
  | [] => []
  | x :: xs => frs0 x ++ frsL xs
def frs1 : AV → List (Nat × Blk)
  | .agg cs => frsL cs
  | x => frs0 x
def frsV : List AV → List (Nat × Blk)
  | [] => []
  | x :: xs => frs1 x ++ frsV xs
def frs2 : AV → List (Nat × Blk)
  | .tup vs => frsV vs
  | x => frs1 x
/-- The shape of such an outcome. -/
def wfX0 : AV → Bool
  | .int _ _ | .bool _ | .str _ | .lst _ _ | .fn _ | .nil => true
  | .fr _ _ z _ => decide (0 < z.length)
  | .fp _ cs => cs.all AV.clean0
  | _ => false
def wfX1 : AV → Bool
  | .agg cs => cs.all wfX0
  | x => wfX0 x
def wfX2 : AV → Bool
  | .tup vs => vs.all wfX1
  | x => wfX1 x
/-- Nothing of what was lent can be in it. -/
def flatX0 : AV → Bool
  | .int _ _ | .bool _ | .str _ | .fn _ | .nil => true
  | .fr _ _ z _ => z.all fun c => match c with
    | .int _ _ | .bool _ | .str _ => true
    | _ => false
  | .fp _ cs => cs.all AV.flat0
  | _ => false
def flatX1 : AV → Bool
  | .agg cs => cs.all flatX0
  | x => flatX0 x
def flatX2 : AV → Bool
  | .tup vs => vs.all flatX1
  | x => flatX1 x
def flatL : List (Nat × Blk) → Prop
  | [] => True
  | (_, .buf _ _ es) :: l => FlatE es ∧ flatL l
  | (_, .cells _) :: l => flatL l
  | (_, .qb _ _ _) :: _ => False
  | (_, .ms _ _) :: l => flatL l
  | (_, .clo _ _ _ _ _) :: _ => False
  | (_, .dead) :: l => flatL l
def nodupN : List Nat → Bool
  | [] => true
  | x :: xs => !xs.contains x && nodupN xs
def idsOK (l : List (Nat × Blk)) : Bool := nodupN (l.map (·.1)) && (l.map (·.1)).all fun j => decide (j < 64)
/-- New blocks are kept. -/
def addF (d : Nat) : List (Nat × Blk) → St → St
  | [], σ => σ
  | (j, b) :: l, σ => addF d l ⟨killS ((64 * d + 64) + j) σ.s, updM (killM ((64 * d + 64) + j) σ.m) ((64 * d + 64) + j) (some b)⟩
def putX (d : Nat) (r : AV) (σ : St) : St := ⟨upd (addF d (frs2 r) σ).s d (unfr2 d r), (addF d (frs2 r) σ).m⟩
/-- Behind such a call: what was lent is taken back, or frozen. -/
def backX (bs : List Nat) (f : Bool) (fl : Prop) (σ : St) (K : St → Prop) : Prop := match bs with
  | [] => K σ
  | _ :: _ => match f with
    | true => fl ∧ K σ
    | false => (bs.all fun r => decide (64 ≤ r)) = true ∧ K (frzL bs σ)
def evXP (d : Nat) (bs : List Nat) (σ : St) (K : St → Prop) (o : Prop × AV × List AV) : Prop :=
  o.1 → (wfX2 o.2.1 && idsOK (frs2 o.2.1)) = true ∧ backX bs (flatX2 o.2.1) (flatL (frs2 o.2.1)) σ fun σ => K (putX d o.2.1 σ)
def evXS (r d : Nat) (bs : List Nat) (σ : St) (K : St → Prop) (o : Prop × AV × List AV) : Prop :=
  o.1 → (wfX2 o.2.1 && (idsOK (frs2 o.2.1) && o.2.2.all AV.clean0)) = true ∧ backX bs (flatX2 o.2.1 && o.2.2.all AV.flat0) (flatL (frs2 o.2.1)) σ fun σ => K (putX d o.2.1 ⟨σ.s, updM σ.m r (some (.cells o.2.2))⟩)
def evXN (ι : Type) (d : Nat) (bs : List Nat) (σ : St) (K : St → Prop) : Option (Prop × (ι → Prop × AV × List AV)) → Prop
  | some (q, g) => q ∧ ∀ i, evXP d bs σ K (g i)
  | none => False
def evXM (ι : Type) (r d : Nat) (bs : List Nat) (σ : St) (K : St → Prop) : Option (Prop × (ι → Prop × AV × List AV)) → Prop
  | some (q, g) => q ∧ ∀ i, evXS r d bs σ K (g i)
  | none => False
def evXA (ι : Type) (fn : List AV → List AV → Option (Prop × (ι → Prop × AV × List AV))) (d : Nat) (σ : St) (K : St → Prop) : Option (List AV × List Nat) → Prop
  | some (vs, bs) => evXN ι d bs σ K (fn [] vs)
  | none => False
def evXB (ι : Type) (fn : List AV → List AV → Option (Prop × (ι → Prop × AV × List AV))) (r d : Nat) (cs : List AV) (σ : St) (K : St → Prop) : Option (List AV × List Nat) → Prop
  | some (vs, bs) => cs.all AV.clean0 = true ∧ evXM ι r d bs σ K (fn cs vs)
  | none => False
def evXC (ι : Type) (fn : List AV → List AV → Option (Prop × (ι → Prop × AV × List AV))) (r d : Nat) (vs : List AV) (σ : St) (K : St → Prop) : Option Blk → Prop
  | some (.cells cs) => evXB ι fn r d cs σ K (lends σ.m vs)
  | _ => False
def evX (st : Bool) (ι : Type) (fn : List AV → List AV → Option (Prop × (ι → Prop × AV × List AV))) (d : Nat) (vs : List AV) (σ : St) (K : St → Prop) : Prop :=
  match st with
  | false => evXA ι fn d σ K (lends σ.m vs)
  | true => match vs with
    | .ptr r 0 :: vs => evXC ι fn r d vs σ K (σ.m r)
    | _ => False
def evXV (st : Bool) (ι : Type) (fn : List AV → List AV → Option (Prop × (ι → Prop × AV × List AV))) (d : Nat) (σ : St) (K : St → Prop) : Option (List AV) → Prop
  | some vs => evX st ι fn d vs σ K
  | none => False
/-- A list of bytes that is taken for a string's: it is written no more. -/
def mkS2 (d k : Nat) (σ : St) (K : St → Prop) : Option Blk → Prop
  | some (.buf _ z es) => match decide (64 ≤ k) with
    | true => es ≠ [] ∧ K ⟨upd (frzSl k z es σ.s) d (.lst z es), updM (frzM k z es σ.m) k none⟩
    | false => False
  | _ => False
def mkS1 (d : Nat) (σ : St) (K : St → Prop) : AV → Prop
  | .vw k _ _ _ => mkS2 d k σ K (σ.m k)
  | _ => False
def strOf (o : RO) : Option (Nat × A) := match o with
  | ⟨some d, .mkstr x, none, _⟩ => some (d, x)
  | _ => none
/-- Is the operation a call of such a function? -/
def extOf (Φ : Nat → Option Ctr) (o : RO) : Option (Nat × List A × Bool × Σ ι : Type, (List AV → List AV → Option (Prop × (ι → Prop × AV × List AV)))) := match o with
  | ⟨some d, .call f xs, none, _⟩ => match Φ f with
    | some (.ext st ι fn) => some (d, xs, st, ⟨ι, fn⟩)
    | _ => none
  | _ => none

/-- The buffers that an operation wants frozen. -/
def vws0 : AV → List Nat
  | .vw r _ _ _ => [r]
  | .sv r _ _ _ => [r]
  | _ => []
def vwsL : List AV → List Nat
  | [] => []
  | x :: xs => vws0 x ++ vwsL xs
def vws1 : AV → List Nat
  | .agg cs => vwsL cs
  | x => vws0 x
def vwsG (σ : St) : List (Nat × A) → List Nat
  | [] => []
  | (_, x) :: ps => vws1 (ar σ x) ++ vwsG σ ps
def vwsT (v : AV) : AV → List Nat
  | .bp _ _ _ _ => vws1 v
  | _ => []
def preF (σ : St) : IOp → List Nat
  | .bslice _ _ ps => vwsG σ ps
  | .bsliceO _ _ _ ps => vwsG σ ps
  | .store _ x v => vwsT (ar σ v) (ar σ x)
  | _ => []

/-- The operations one behind the other. -/
def evOps (Φ : Nat → Option Ctr) : List RO → St → (St → Prop) → Prop
  | [], σ, K => K σ
  | o :: rest, σ, K => match strOf o with
    | some (d, x) => mkS1 d σ (fun σ' => evOps Φ rest σ' K) (ar σ x)
    | none => match extOf Φ o with
    | some (d, xs, st, ⟨ι, fn⟩) => evXV st ι fn d σ (fun σ' => evOps Φ rest σ' K) (avs σ [] xs)
    | none => match evG Φ o (frzL (preF σ o.op) σ) with
      | none => False
      | some r => askL r.pre (knowL r.post (evOps Φ rest ((frzL (preF σ o.op) σ).put o.dst r) K))

/-! ### Regions whose order is drawn -/
/-- The slots of a guarded value's path. -/
def pslots : AV → List Nat
  | .gd p _ => p.map (·.1)
  | _ => []
/-- The blocks that an outcome writes or makes. -/
def idsR (d : Option Nat) (r : Res) : List Nat := r.ups.map (·.1) ++ (match r.new, d with
  | some (i, _), some _ => [i]
  | _, _ => [])
def optN : Option Nat → List Nat
  | some d => [d]
  | none => []
def chkR (d1 : Option Nat) (r1 : Res) (d : Option Nat) (r : Res) : Bool :=
  disjN (pslots r.val) (optN d1) && disjN (pslots r1.val) (optN d) && disjN (idsR d1 r1) (r.tch ++ idsR d r) && disjN (idsR d r) r1.tch
/-- Nothing in an outcome refers to block b. -/
def noMen (b : Nat) (r : Res) : Prop :=
  kill3 b r.val = r.val ∧ (r.ups.map fun u => (u.1, killB b u.2)) = r.ups ∧ ((r.ups.map (·.1)).contains b) = false ∧ (match r.new with
    | some (_, k) => killB b k = k
    | none => True)
def newMen (d : Option Nat) (r r1 : Res) : Prop := match r.new, d with
  | some (i, _), some _ => noMen i r1
  | _, _ => True
/-- An outcome ahead of another: those that need not wait for one another may change places. -/
def pairOK (m : Nat) (d1 : Option Nat) (r1 : Res) (af : List Nat) (d : Option Nat) (r : Res) : Prop :=
  newMen d r r1 ∧ (match af.contains m with
    | true => True
    | false => chkR d1 r1 d r = true ∧ newMen d1 r1 r)
def isDead : Blk → Bool
  | .dead => true
  | .cells _ => false
  | .buf _ _ _ => false
  | .qb _ _ _ => false
  | .ms _ _ => false
  | .clo _ _ _ _ _ => false
/-- They only say that a block is nobody's any more. -/
def deadL : List (Nat × Blk) → Bool
  | [] => true
  | (_, b) :: us => isDead b && deadL us
def newOK (d : Option Nat) (r : Res) : Prop := match r.new, d with
  | some (i, b), some d => i = (64 * d + 64) ∧ deadL r.ups = true ∧ liveB (killB i b) = some b
  | some _, none => False
  | none, _ => True
def pairD : List (Nat × Option Nat × Res) → List Nat → Option Nat → Res → Prop → Prop
  | [], _, _, _, K => K
  | (m, d1, r1) :: D, af, d, r, K => pairOK m d1 r1 af d r ∧ pairD D af d r K
def knowD : List (Nat × Option Nat × Res) → Prop → Prop
  | [], K => K
  | (_, _, r) :: D, K => knowL r.post (knowD D K)
/-- The blocks that a region makes are forgotten ahead of it. -/
def preK : List RO → St → St
  | [], σ => σ
  | o :: l, σ => match o.dst, needD o.op with
    | some d, true => preK l ⟨killS ((64 * d + 64)) σ.s, updM (killM ((64 * d + 64)) σ.m) ((64 * d + 64)) none⟩
    | _, _ => preK l σ
def evD (Φ : Nat → Option Ctr) : List RO → Nat → List (Nat × Option Nat × Res) → St → (St → Prop) → Prop
  | [], _, D, σ, K => knowD D (K σ)
  | o :: rest, n, D, σ, K => match evG Φ o σ with
    | none => False
    | some r => newOK o.dst r ∧ askL r.pre (pairD D o.after o.dst r (evD Φ rest (n + 1) ((n, o.dst, r) :: D) (σ.put o.dst r) K))

/-- A state that is written out: the slots and the blocks that are known. -/
structure SL where
  l : List (Nat × AV)
  b : List (Nat × Blk)
def lookL : List (Nat × AV) → Nat → AV
  | [] => fun _ => .junk
  | (d, v) :: l => upd (lookL l) d v
def lookM : List (Nat × Blk) → Nat → Option Blk
  | [] => fun _ => none
  | (r, b) :: l => updM (lookM l) r (some b)
def SL.st (S : SL) : St := ⟨lookL S.l, lookM S.b⟩

/-- What may be forgotten of a value: a nil slice is one without elements. -/
def leA : AV → AV → Prop
  | .nil, .lst _ es => es = []
  | x, y => x = y
def leAs : List AV → List AV → Prop
  | [], [] => True
  | x :: xs, y :: ys => leA x y ∧ leAs xs ys
  | _, _ => False
def leV1 : AV → AV → Prop
  | .agg xs, .agg ys => leAs xs ys
  | x, y => leA x y
def leL (s : Nat → AV) : List (Nat × AV) → Prop
  | [] => True
  | (d, v) :: l => leV1 (s d) v ∧ leL s l
def leB : Option Blk → Blk → Prop
  | some (.cells cs), .cells ds => leAs cs ds
  | some (.buf t z es), .buf t' z' es' => t = t' ∧ z = z' ∧ es = es'
  | some (.buf t z es), .qb t' z' es' => t = t' ∧ z = z' ∧ es = es'
  | some (.qb t z es), .qb t' z' es' => t = t' ∧ z = z' ∧ es = es'
  | some (.ms n ks), .ms n' ks' => n = n' ∧ ks = ks'
  | some (.clo f z es i o), .clo f' z' es' i' o' => f = f' ∧ z = z' ∧ es = es' ∧ i = i' ∧ o = o'
  | _, _ => False
def leM (m : Nat → Option Blk) : List (Nat × Blk) → Prop
  | [] => True
  | (r, b) :: l => leB (m r) b ∧ leM m l
def SL.ge0 (S : SL) (σ : St) : Prop := leL σ.s S.l ∧ leM σ.m S.b
def SL.ge (S : SL) (σ : St) : Prop := S.ge0 (applyL (lkL (lookM S.b) σ.s S.l ++ lkM (lookM S.b) σ.m S.b) σ)

/-- A loop's invariant: what it ranges over, the states at the head, a measure. -/
structure LI where
  ι : Type
  S : ι → SL
  μ : ι → Nat
  /-- what every round keeps of the first -/
  R : ι → ι → Prop

def hasG (ops : List RO) : Bool := ops.any fun o => o.guard.isSome
def endR (ops : List RO) (σ : St) : St := match hasG ops with
  | true => ⟨ungdS σ.s, σ.m⟩
  | false => σ

def kN (K : Exit → St → Prop) : St → Prop := fun σ => K .normal σ
def kSeq (E : St → (Exit → St → Prop) → Prop) (K : Exit → St → Prop) : Exit → St → Prop
  | .normal, σ => E σ K
  | .exit i, σ => K (.exit i) σ
  | .goto l, σ => K (.goto l) σ
  | .ret, σ => K .ret σ
  | .panic c, σ => K (.panic c) σ
  | .outgrown, σ => K .outgrown σ
def kBlk (id : Nat) (K : Exit → St → Prop) : Exit → St → Prop
  | .exit i, σ => match i == id with
    | true => K .normal σ
    | false => K (.exit i) σ
  | .normal, σ => K .normal σ
  | .goto l, σ => K (.goto l) σ
  | .ret, σ => K .ret σ
  | .panic c, σ => K (.panic c) σ
  | .outgrown, σ => K .outgrown σ
def kLoop (L : LI) (i0 i : L.ι) (K : Exit → St → Prop) : Exit → St → Prop
  | .normal, σ => ∃ j, (L.S j).ge σ ∧ L.R i0 j ∧ L.μ j < L.μ i
  | .exit i, σ => K (.exit i) σ
  | .goto l, σ => K (.goto l) σ
  | .ret, σ => K .ret σ
  | .panic c, σ => K (.panic c) σ
  | .outgrown, σ => K .outgrown σ

def kEnd (ops : List RO) (K : Exit → St → Prop) : St → Prop := fun σ => K .normal (endR ops σ)

/-! ### Regions whose guards are looked at one by one -/
def pickS (d : Option Nat) (c : A) (x y : A) (σ : St) (K : St → Prop) : AV → Prop
  | .bool q => match d, c with
    | some d, .t k => (q = true → K ⟨upd (upd σ.s k (.bool true)) d (ar σ x), σ.m⟩) ∧ (q = false → K ⟨upd (upd σ.s k (.bool false)) d (ar σ y), σ.m⟩)
    | _, _ => False
  | _ => False
def evS0k (Φ : Nat → Option Ctr) (dst : Option Nat) (af : List Nat) (σ : St) (K : St → Prop) (op : IOp) : Option (A × A × A) → Prop
  | some (c, x, y) => pickS dst c x y σ K (ar σ c)
  | none => evOps Φ [⟨dst, op, none, af⟩] σ K
def evS0 (Φ : Nat → Option Ctr) (dst : Option Nat) (af : List Nat) (σ : St) (K : St → Prop) (op : IOp) : Prop := evS0k Φ dst af σ K op (pickOf op)
def evSG (Φ : Nat → Option Ctr) (dst : Option Nat) (op : IOp) (g : Nat) (b : Bool) (af : List Nat) (σ : St) (K : St → Prop) : AV → Prop
  | .bool c => (c = b → evS0 Φ dst af ⟨upd σ.s g (.bool b), σ.m⟩ K op) ∧ (c = (!b) → match dst with
    | some d => K ⟨upd (upd σ.s g (.bool !b)) d (.tup []), σ.m⟩
    | none => K ⟨upd σ.s g (.bool !b), σ.m⟩)
  | .tup [] => match dst with
    | some d => K ⟨upd σ.s d (.tup []), σ.m⟩
    | none => K σ
  | _ => False
def evS1 (Φ : Nat → Option Ctr) : RO → St → (St → Prop) → Prop
  | ⟨dst, op, none, af⟩, σ, K => evS0 Φ dst af σ K op
  | ⟨dst, op, some (g, b), af⟩, σ, K => evSG Φ dst op g b af σ K (σ.s g)
def evOpsS (Φ : Nat → Option Ctr) : List RO → St → (St → Prop) → Prop
  | [], σ, K => K σ
  | o :: rest, σ, K => evS1 Φ o σ fun σ' => evOpsS Φ rest σ' K

/-! ### The same, where the order is drawn -/
abbrev DL := List (Nat × Option Nat × Res)
def vRes : Option AV → Option Res
  | some v => some ⟨[], [], v, [], none, []⟩
  | none => none
def stepDS (d : Option Nat) (af : List Nat) (n : Nat) (D : DL) (σ : St) (K : DL → St → Prop) : Option Res → Prop
  | none => False
  | some r => newOK d r ∧ askL r.pre (pairD D af d r (K ((n, d, r) :: D) (σ.put d r)))
def pickDS (d : Option Nat) (af : List Nat) (n : Nat) (D : DL) (σ : St) (K : DL → St → Prop) (c x y : A) : AV → Prop
  | .bool q => match c with
    | .t k => (q = true → stepDS d af n D ⟨upd σ.s k (.bool true), σ.m⟩ K (vRes (av σ [] x))) ∧ (q = false → stepDS d af n D ⟨upd σ.s k (.bool false), σ.m⟩ K (vRes (av σ [] y)))
    | .c _ => False
  | _ => False
def passDS (Φ : Nat → Option Ctr) (d : Option Nat) (op : IOp) (af : List Nat) (n : Nat) (D : DL) (σ : St) (K : DL → St → Prop) : Option (A × A × A) → Prop
  | none => stepDS d af n D σ K (evOp Φ op (d.getD 0) [] σ)
  | some (c, x, y) => pickDS d af n D σ K c x y (ar σ c)
def guardDS (Φ : Nat → Option Ctr) (d : Option Nat) (op : IOp) (g : Nat) (b : Bool) (af : List Nat) (n : Nat) (D : DL) (σ : St) (K : DL → St → Prop) : AV → Prop
  | .bool c => (c = b → passDS Φ d op af n D ⟨upd σ.s g (.bool b), σ.m⟩ K (pickOf op)) ∧ (c = (!b) → stepDS d af n D ⟨upd σ.s g (.bool !b), σ.m⟩ K (some ⟨[], [], .junk, [], none, []⟩))
  | _ => False
def evDS1 (Φ : Nat → Option Ctr) : RO → Nat → DL → St → (DL → St → Prop) → Prop
  | ⟨d, op, none, af⟩, n, D, σ, K => passDS Φ d op af n D σ K (pickOf op)
  | ⟨d, op, some (g, b), af⟩, n, D, σ, K => guardDS Φ d op g b af n D σ K (σ.s g)
def evDS (Φ : Nat → Option Ctr) : List RO → Nat → DL → St → (St → Prop) → Prop
  | [], _, D, σ, K => knowD D (K σ)
  | o :: rest, n, D, σ, K => evDS1 Φ o n D σ fun D' σ' => evDS Φ rest (n + 1) D' σ' K

def mregS (m : Nat) (es : List (Int × Int)) (a b c d : Nat) (s : Nat → AV) (M : Nat → Option Blk) (K : Exit → St → Prop) : AV → Prop
  | .int .u8 n => K .normal ⟨upd (upd (upd (upd (upd s m .junk) a .junk) b (.int .u8 n)) c (.int .i64 (lookI n es))) d (.int .i64 (lookI n es)), M⟩
  | _ => False
def evC (Φ : Nat → Option Ctr) (I : Nat → LI) : RC → St → (Exit → St → Prop) → Prop
  | .skip, σ, K => K .normal σ
  | .region ops false, σ, K => evOps Φ ops σ (kEnd ops K)
  | .region ops true, σ, K => evD Φ ops 0 [] (preK ops σ) (kEnd ops K)
  | .seq a b, σ, K => evC Φ I a σ (kSeq (evC Φ I b) K)
  | .cond c t e, σ, K => match ar σ c with
    | .bool b => (b = true → evC Φ I t σ K) ∧ (b = false → evC Φ I e σ K)
    | .nb b => (b = true → evC Φ I t σ K) ∧ evC Φ I e σ K
    | _ => False
  | .block id b, σ, K => evC Φ I b σ (kBlk id K)
  | .loop n b, σ, K => ∃ i0, ((I n).S i0).ge σ ∧ (I n).R i0 i0 ∧ ∀ i, (I n).R i0 i → evC Φ I b ((I n).S i).st (kLoop (I n) i0 i K)
  | .splitD ops, σ, K => evDS Φ ops 0 [] (preK ops σ) (kEnd ops K)
  | .split ops, σ, K => evOpsS Φ ops σ (fun σ' => K .normal σ')
  | .ghost k b, σ, K => evC Φ I b (ghV k σ (frzL (vws0 (σ.s k)) σ) (σ.s k)) K
  | .cut n b, σ, K => ∃ i0, ((I n).S i0).ge σ ∧ (I n).R i0 i0 ∧ ∀ i, (I n).R i0 i → evC Φ I b ((I n).S i).st K
  | .mreg m es a b x c d, σ, K => mregS m es a b c d σ.s σ.m K (ar ⟨upd (upd σ.s m .junk) a .junk, σ.m⟩ x)
  | .exit id, σ, K => K (.exit id) σ
  | .ret, σ, K => K .ret σ

/-! ### A function's results -/
def retV (σ : St) : RV → Option AV
  | .t n => some (σ.s n)
  | .c p n ag => match σ.s p with
    | .ptr r o => match σ.m r with
      | some (.cells cs) => valOf ag n cs o
      | _ => none
    | _ => none
def retL (σ : St) : List RV → Option (List AV)
  | [] => some []
  | r :: rs => match retV σ r, retL σ rs with
    | some v, some vs => some (v :: vs)
    | _, _ => none
def leVs : List AV → List AV → Prop
  | [], [] => True
  | x :: xs, y :: ys => leV1 x y ∧ leVs xs ys
  | _, _ => False
def resV : List AV → AV → Prop
  | [v], r => leV1 v r
  | vs, .tup ys => leVs vs ys
  | _, _ => False
def lkR : Option (List AV) → AV → List Lk
  | some [v], r => lk1 v r
  | some vs, .tup ys => lkVs vs ys
  | _, _ => []
def lkT (st : Bool) (m : Nat → Option Blk) (cs : List AV) : List Lk := match st with
  | false => []
  | true => lkB (fun _ => none) 0 (m 0) (.cells cs)
/-- What a function hands back: a value that may be taken for r; and (where it keeps a block 0) the cells cs there. -/
def retOK0 (rv : List RV) (r : AV) (st : Bool) (cs : List AV) (σ : St) : Prop :=
  (match retL σ rv with
   | some vs => resV vs r
   | none => False) ∧
  (match st with
   | false => True
   | true => match σ.m 0 with
     | some (.cells ds) => leAs ds cs
     | _ => False)
def retOK (rv : List RV) (r : AV) (st : Bool) (cs : List AV) (σ : St) : Prop := retOK0 rv r st cs (applyL (lkR (retL σ rv) r ++ lkT st σ.m cs) σ)
def kRet (rv : List RV) (r : AV) (st : Bool) (cs : List AV) : Exit → St → Prop
  | .ret, σ => retOK rv r st cs σ
  | .normal, σ => retOK rv r st cs σ
  | .exit _, _ => False
  | .goto _, _ => False
  | .panic _, _ => False
  | .outgrown, _ => False

/-! Outcomes of a family -/
def leFB : Option Blk → Nat → List AV → List (List AV) → Prop
  | some (.buf t z es), t', z', es' => t = t' ∧ z = z' ∧ es = es'
  | _, _, _, _ => False
def leFC : Option Blk → List AV → Prop
  | some (.cells ds), cs => leAs ds cs
  | _, _ => False
def leX0 (m : Nat → Option Blk) (x y : AV) : Prop := match y, x with
  | .fr _ t z es, .vw k _ _ _ => leFB (m k) t z es
  | .fr _ _ _ es, .nil => es = []
  | .fr _ _ _ _, _ => False
  | .fp _ cs, .ptr k 0 => leFC (m k) cs
  | .fp _ _, _ => False
  | y, x => leA x y
def leXs (m : Nat → Option Blk) : List AV → List AV → Prop
  | [], [] => True
  | x :: xs, y :: ys => leX0 m x y ∧ leXs m xs ys
  | _, _ => False
def leX1 (m : Nat → Option Blk) (x y : AV) : Prop := match x, y with
  | .agg xs, .agg ys => leXs m xs ys
  | x, y => leX0 m x y
def leXV (m : Nat → Option Blk) : List AV → List AV → Prop
  | [], [] => True
  | x :: xs, y :: ys => leX1 m x y ∧ leXV m xs ys
  | _, _ => False
def resX (m : Nat → Option Blk) : List AV → AV → Prop
  | [v], r => leX1 m v r
  | vs, .tup ys => leXV m vs ys
  | _, _ => False
/-- The kept blocks that are handed back: the number told, the number here (none: a nil slice). -/
def pq0 (x y : AV) : List (Nat × Option Nat) := match y, x with
  | .fr j _ _ _, .vw k _ _ _ => [(j, some k)]
  | .fr j _ _ _, _ => [(j, none)]
  | .fp j _, .ptr k _ => [(j, some k)]
  | .fp j _, _ => [(j, none)]
  | _, _ => []
def pqL : List AV → List AV → List (Nat × Option Nat)
  | x :: xs, y :: ys => pq0 x y ++ pqL xs ys
  | _, _ => []
def pq1 (x y : AV) : List (Nat × Option Nat) := match x, y with
  | .agg xs, .agg ys => pqL xs ys
  | x, y => pq0 x y
def pqV : List AV → List AV → List (Nat × Option Nat)
  | x :: xs, y :: ys => pq1 x y ++ pqV xs ys
  | _, _ => []
def pqR : List AV → AV → List (Nat × Option Nat)
  | [v], r => pq1 v r
  | vs, .tup ys => pqV vs ys
  | _, _ => []
def pqK : List (Nat × Option Nat) → List Nat
  | [] => []
  | (_, some k) :: l => k :: pqK l
  | (_, none) :: l => pqK l
def wfRes : List AV → AV → Bool
  | [_], r => wfX1 r
  | _, r => wfX2 r
def resXO (m : Nat → Option Blk) (r : AV) : Option (List AV) → Prop
  | some vs => resX m vs r ∧ (nodupN (pqK (pqR vs r)) && ((pqK (pqR vs r)).all (fun k => decide (64 ≤ k)) && (idsOK (frs2 r) && wfRes vs r))) = true
  | none => False
def resXT (st : Bool) (cs : List AV) : Option Blk → Prop
  | some (.cells ds) => st = false ∨ leAs ds cs
  | _ => st = false
def retX0 (rv : List RV) (r : AV) (st : Bool) (cs : List AV) (σ : St) : Prop := resXO σ.m r (retL σ rv) ∧ resXT st cs (σ.m 0)
def retX (rv : List RV) (r : AV) (st : Bool) (cs : List AV) (σ : St) : Prop := retX0 rv r st cs (applyL (lkR (retL σ rv) r ++ lkT st σ.m cs) σ)
def kRetX {ι : Type} (rv : List RV) (st : Bool) (g : ι → Prop × AV × List AV) : Exit → St → Prop
  | .ret, σ => ∃ i, (g i).1 ∧ retX rv (g i).2.1 st (g i).2.2 σ
  | .normal, σ => ∃ i, (g i).1 ∧ retX rv (g i).2.1 st (g i).2.2 σ
  | .exit _, _ => False
  | .goto _, _ => False
  | .panic _, _ => False
  | .outgrown, _ => False

def initS (xs : List AV) : Nat → AV := fun k => xs.getD k .junk
def initM (st : Bool) (cs : List AV) : Nat → Option Blk := match st with
  | false => fun _ => none
  | true => updM (fun _ => none) 0 (some (.cells cs))

end Go.Ev
