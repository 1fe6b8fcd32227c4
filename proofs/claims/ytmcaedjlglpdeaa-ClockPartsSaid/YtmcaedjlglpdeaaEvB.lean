/- A part of the proof: symbolic evaluation of the program's functions, proved sound against the model; no condition. -/
/-
  The framework 'Ev', part B: the evaluator of the intermediate code over a symbolic state.
  Conditions: none; this text only defines.
-/
import Derived.Test.YtmcaedjlglpdeaaEvA
namespace Go.Ev
open Go Go.RowKit

/-- A value, read under a path of guards: one that is there only under guards must have them among these. -/
def gv (p : List (Nat × Bool)) : AV → Option AV
  | .gd q v => match q.all (fun x => p.contains x) with
    | true => some v
    | false => none
  | .int k n => some (.int k n)
  | .bool b => some (.bool b)
  | .str s => some (.str s)
  | .agg cs => some (.agg cs)
  | .tup vs => some (.tup vs)
  | .lst z es => some (.lst z es)
  | .ep z es i o => some (.ep z es i o)
  | .ptr r o => some (.ptr r o)
  | .ap r o n i => some (.ap r o n i)
  | .vw r z l h => some (.vw r z l h)
  | .bp r z i o => some (.bp r z i o)
  | .fr i z es => some (.fr i z es)
  | .fn f => some (.fn f)
  | .nil => some .nil
  | .junk => some .junk

/-- Behind a region: what was there only under guards is forgotten. -/
def ungd : AV → AV
  | .gd _ _ => .junk
  | .int k n => .int k n
  | .bool b => .bool b
  | .str s => .str s
  | .agg cs => .agg cs
  | .tup vs => .tup vs
  | .lst z es => .lst z es
  | .ep z es i o => .ep z es i o
  | .ptr r o => .ptr r o
  | .ap r o n i => .ap r o n i
  | .vw r z l h => .vw r z l h
  | .bp r z i o => .bp r z i o
  | .fr i z es => .fr i z es
  | .fn f => .fn f
  | .nil => .nil
  | .junk => .junk

/-- No struct, no tuple, no guarded value. -/
def AV.atom : AV → Bool
  | .agg _ | .tup _ | .gd _ _ => false
  | _ => true
/-- A struct or an atom. -/
def AV.lev1 : AV → Bool
  | .tup _ | .gd _ _ => false
  | _ => true

/-- The block that an atom refers to. -/
def AV.rid : AV → Option Nat
  | .ptr r _ | .ap r _ _ _ | .vw r _ _ _ | .bp r _ _ _ => some r
  | _ => none

structure St where
  s : Nat → AV
  m : Nat → Option Blk

def upd (s : Nat → AV) (d : Nat) (v : AV) : Nat → AV := fun k => if k = d then v else s k
def updM (m : Nat → Option Blk) (r : Nat) (b : Option Blk) : Nat → Option Blk := fun k => if k = r then b else m k

/-- A value that refers to block r is forgotten: an atom; a struct; a tuple; any value. -/
def kill0 (r : Nat) : AV → AV
  | .ptr r' o => if r' = r then .junk else .ptr r' o
  | .ap r' o n i => if r' = r then .junk else .ap r' o n i
  | .vw r' z l h => if r' = r then .junk else .vw r' z l h
  | .bp r' z i o => if r' = r then .junk else .bp r' z i o
  | .fr i z es => .fr i z es
  | .int k n => .int k n
  | .bool b => .bool b
  | .str s => .str s
  | .agg cs => .agg cs
  | .tup vs => .tup vs
  | .lst z es => .lst z es
  | .ep z es i o => .ep z es i o
  | .fn f => .fn f
  | .nil => .nil
  | .gd c v => .gd c v
  | .junk => .junk
def kill1 (r : Nat) : AV → AV
  | .agg cs => .agg (cs.map (kill0 r))
  | x => kill0 r x
def kill2 (r : Nat) : AV → AV
  | .tup vs => .tup (vs.map (kill1 r))
  | x => kill1 r x
def kill3 (r : Nat) : AV → AV
  | .gd c v => .gd c (kill2 r v)
  | x => kill2 r x
def killB (r : Nat) : Blk → Blk
  | .cells cs => .cells (cs.map (kill0 r))
  | .buf z es => .buf z es

def killS (r : Nat) (s : Nat → AV) : Nat → AV := fun k => kill3 r (s k)
def killM (r : Nat) (m : Nat → Option Blk) : Nat → Option Blk := fun k => match m k with
  | none => none
  | some b => some (killB r b)
def ungdS (s : Nat → AV) : Nat → AV := fun k => ungd (s k)

/-- The outcome of an operation: what it asks, what is known behind it, its value, the blocks written anew (of the kept ones), a block made anew (its number is the slot's), the blocks that it looks at. -/
structure Res where
  pre : List Prop
  post : List Prop
  val : AV
  ups : List (Nat × Blk)
  new : Option Blk
  tch : List Nat

def Res.q (v : AV) : Option Res := some ⟨[], [], v, [], none, []⟩
def Res.qp (p : Prop) (v : AV) : Option Res := some ⟨[p], [], v, [], none, []⟩

def ar (σ : St) : A → AV
  | .t n => σ.s n
  | .c v => v
/-- An operand under a path of guards. -/
def av (σ : St) (p : List (Nat × Bool)) (x : A) : Option AV := gv p (ar σ x)
def avs (σ : St) (p : List (Nat × Bool)) : List A → Option (List AV)
  | [] => some []
  | x :: xs => match av σ p x, avs σ p xs with
    | some v, some vs => some (v :: vs)
    | _, _ => none

/-! ### The operations on values -/

def bitsI (op : BinOp) (k : IntKind) (x y : Int) : Int :=
  k.wrap (match op with
    | .and => (BitVec.ofInt k.bits x &&& BitVec.ofInt k.bits y)
    | .or => (BitVec.ofInt k.bits x ||| BitVec.ofInt k.bits y)
    | .xor => (BitVec.ofInt k.bits x ^^^ BitVec.ofInt k.bits y)
    | _ => (BitVec.ofInt k.bits x &&& ~~~ BitVec.ofInt k.bits y)).toNat

def arithR (op : BinOp) : AV → AV → Option Res
  | .int k a, .int k' b => if k = k' then match op with
    | .add => Res.q (.int k (k.wrap (a + b)))
    | .sub => Res.q (.int k (k.wrap (a - b)))
    | .mul => Res.q (.int k (k.wrap (a * b)))
    | .quo => Res.qp (b ≠ 0) (.int k (k.wrap (a.tdiv b)))
    | .rem => Res.qp (b ≠ 0) (.int k (a.tmod b))
    | .and => Res.q (.int k (bitsI .and k a b))
    | .or => Res.q (.int k (bitsI .or k a b))
    | .xor => Res.q (.int k (bitsI .xor k a b))
    | .andNot => Res.q (.int k (bitsI .andNot k a b))
    | _ => none
    else none
  | _, _ => none

def cmpR (op : BinOp) : Nat → AV → AV → Option AV
  | 0, .int k a, .int k' b => if k = k' then match op with
    | .eql => some (.bool (decide (a = b)))
    | .neq => some (.bool (!decide (a = b)))
    | .lss => some (.bool (decide (a < b)))
    | .leq => some (.bool (decide (a ≤ b)))
    | .gtr => some (.bool (decide (b < a)))
    | .geq => some (.bool (decide (b ≤ a)))
    | _ => none
    else none
  | 1, .bool a, .bool b => match op with
    | .eql => some (.bool (a == b))
    | .neq => some (.bool (!(a == b)))
    | _ => none
  | 2, .str a, .str b => match op with
    | .eql => some (.bool (decide (a = b)))
    | .neq => some (.bool (!decide (a = b)))
    | _ => none
  | _, _, _ => none

/-- Are two lists of cells equal, cell by cell? The list of numbers says what kind each cell is. -/
def eqCells : List Nat → List AV → List AV → Option Bool
  | [], [], [] => some true
  | 0 :: sh, .int k a :: xs, .int k' b :: ys => if k = k' then (eqCells sh xs ys).map (decide (a = b) && ·) else none
  | 1 :: sh, .bool a :: xs, .bool b :: ys => (eqCells sh xs ys).map ((a == b) && ·)
  | 2 :: sh, .str a :: xs, .str b :: ys => (eqCells sh xs ys).map (decide (a = b) && ·)
  | _, _, _ => none

def eqaR (neg : Bool) (sh : List Nat) : AV → AV → Option AV
  | .agg xs, .agg ys => match eqCells sh xs ys with
    | some b => some (.bool (match neg with | true => !b | false => b))
    | none => none
  | _, _ => none

def slotOf : A → Option Nat
  | .t n => some n
  | .c _ => none
def pickV : AV → AV → AV → Option Res
  | .bool c, .bool a, .bool b => Res.q (.bool (bif c then a else b))
  | _, _, _ => none

def minmaxR (mx : Bool) : AV → AV → Option AV
  | .int k x, .int k' y => if k = k' then some (.int k (match mx with | true => if y > x then y else x | false => if y < x then y else x)) else none
  | _, _ => none
def minmaxL (mx : Bool) : AV → List AV → Option AV
  | v, [] => some v
  | v, x :: xs => match minmaxR mx v x with
    | some v' => minmaxL mx v' xs
    | none => none

/-- The cells of a value as a variable of n cells takes them. -/
def cellsOfAV (n : Nat) : AV → Option (List AV)
  | .agg cs => if cs.length = n then some cs else none
  | .tup _ => none
  | .gd _ _ => none
  | .junk => none
  | v => if n = 1 then some [v] else none

/-- n cells from a place on, as a value. -/
def valOf (ag : Bool) (n : Nat) (cs : List AV) (off : Nat) : Option AV :=
  match ag with
  | true => if off + n ≤ cs.length then some (.agg ((cs.drop off).take n)) else none
  | false => match n with
    | 1 => cs[off]?
    | _ => none

/-- Cells written over from a place on. -/
def setCells : List AV → Nat → List AV → List AV
  | cs, _, [] => cs
  | cs, off, v :: vs => setCells (cs.set off v) (off + 1) vs

/-- Element i of a list of elements; behind the end the zero element. -/
def getE (z : List AV) (es : List (List AV)) (i : Nat) : List AV := es.getD i z

/-- The cells of the parts of a literal. -/
def fillA (σ : St) (p : List (Nat × Bool)) : List AV → List (Nat × Nat × A) → Option (List AV)
  | cs, [] => some cs
  | cs, (off, n, x) :: ps => match av σ p x with
    | some v => match cellsOfAV n v with
      | some vs => if off + n ≤ cs.length then fillA σ p (setCells cs off vs) ps else none
      | none => none
    | none => none

/-- Nothing in it refers to a block that is kept track of. -/
def AV.clean0 : AV → Bool
  | .int _ _ | .bool _ | .str _ | .lst _ _ | .fn _ | .nil => true
  | _ => false
def AV.clean1 : AV → Bool
  | .agg cs => cs.all AV.clean0
  | x => x.clean0
def AV.clean2 : AV → Bool
  | .tup vs => vs.all AV.clean1
  | x => x.clean1

/-- The elements of a slice's literal. -/
def fillS (σ : St) (p : List (Nat × Bool)) (n : Nat) : List (List AV) → List (Nat × A) → Option (List (List AV))
  | es, [] => some es
  | es, (i, x) :: ps => match av σ p x with
    | some v => match cellsOfAV n v with
      | some vs => if i < es.length ∧ vs.all AV.clean0 = true then fillS σ p n (es.set i vs) ps else none
      | none => none
    | none => none

/-- A contract: does it take a pointer to a kept block first; what it asks, yields and leaves there. -/
structure Ctr where
  st : Bool
  fn : List AV → List AV → Option (Prop × AV × List AV)

/-- The outcome of a call, by its contract. -/
def callR (m : Nat → Option Blk) (C : Option Ctr) (vs : List AV) : Option Res :=
  match C with
  | none => none
  | some ⟨false, fn⟩ => match vs.all AV.clean1, fn [] vs with
    | true, some (q, r, _) => match r.clean2 with
      | true => some ⟨[q], [], r, [], none, []⟩
      | false => none
    | _, _ => none
  | some ⟨true, fn⟩ => match vs with
    | .ptr r 0 :: vs => match m r, vs.all AV.clean1 with
      | some (.cells cs), true => match cs.all AV.clean0, fn cs vs with
        | true, some (q, v, cs') => match v.clean2, cs'.all AV.clean0 with
          | true, true => some ⟨[q], [], v, [(r, .cells cs')], none, [r]⟩
          | _, _ => none
        | _, _ => none
      | _, _ => none
    | _ => none

def loadR (m : Nat → Option Blk) (n : Nat) (ag : Bool) : AV → Option Res
  | .ptr r o => match m r with
    | some (.cells cs) => match valOf ag n cs o with
      | some v => some ⟨[], [], v, [], none, [r]⟩
      | none => none
    | _ => none
  | .ep z es i o => match valOf ag n (getE z es i) o with
    | some v => Res.q v
    | none => none
  | _ => none

def storeR (m : Nat → Option Blk) (n : Nat) : AV → AV → Option Res
  | .ptr r o, v => match cellsOfAV n v, m r with
    | some vs, some (.cells cs) => if o + n ≤ cs.length then some ⟨[], [], .junk, [(r, .cells (setCells cs o vs))], none, [r]⟩ else none
    | _, _ => none
  | _, _ => none

def lenR : Nat → AV → Option Res
  | 0, .lst _ es => some ⟨[], [es.length ≤ 9223372036854775807], .int .i64 es.length, [], none, []⟩
  | 0, .nil => Res.q (.int .i64 0)
  | 1, .str s => Res.q (.int .i64 s.length)
  | _, _ => none

def iaddrSR (zero : List AV) : AV → AV → Option Res
  | .lst z es, .int _ n => if z.length = zero.length then some ⟨[0 ≤ n ∧ n < es.length], [es.length ≤ 9223372036854775807], .ep zero es n.toNat 0, [], none, []⟩ else none
  | _, _ => none

def iaddrAR (n sz : Nat) : AV → A → Option Res
  | .ptr r o, .c (.int _ j) => Res.qp (0 ≤ j ∧ j < n) (.ptr r (o + j.toNat * sz))
  | _, _ => none

def faddrR (off : Nat) : AV → Option Res
  | .ptr r o => Res.q (.ptr r (o + off))
  | .ep z es i o => Res.q (.ep z es i (o + off))
  | _ => none

def un1 : IOp → AV → Option Res
  | .mov _, v => Res.q v
  | .not _, .bool b => Res.q (.bool !b)
  | .neg _, .int k n => Res.q (.int k (k.wrap (0 - n)))
  | .conv k _, .int _ n => Res.q (.int k (k.wrap n))
  | .extract i _, .tup vs => match vs[i]? with
    | some v => Res.q v
    | none => none
  | .nilchk _, .ptr r o => Res.q (.ptr r o)
  | _, _ => none

def toR : Option AV → Option Res
  | some v => Res.q v
  | none => none

def bind1 (x : Option AV) (f : AV → Option Res) : Option Res := match x with
  | some v => f v
  | none => none
def bind2 (x y : Option AV) (f : AV → AV → Option Res) : Option Res := match x, y with
  | some v, some w => f v w
  | _, _ => none

def boxR (n d : Nat) (v : AV) : Option Res := match cellsOfAV n v with
  | some cs => some ⟨[], [], .ptr (64 * d) 0, [], some (.cells cs), []⟩
  | none => none

/-- One operation, under a path of guards. -/
def evOp (Φ : Nat → Option Ctr) (io : IOp) (d : Nat) (p : List (Nat × Bool)) (σ : St) : Option Res :=
  match io with
  | .mov x => bind1 (av σ p x) (un1 (.mov x))
  | .not x => bind1 (av σ p x) (un1 (.not x))
  | .neg x => bind1 (av σ p x) (un1 (.neg x))
  | .conv k x => bind1 (av σ p x) (un1 (.conv k x))
  | .extract i x => bind1 (av σ p x) (un1 (.extract i x))
  | .nilchk x => bind1 (av σ p x) (un1 (.nilchk x))
  | .pick c a b => match slotOf c with
    | some k => bind1 (av σ p c) fun vc => bind2 (av σ (p ++ [(k, true)]) a) (av σ (p ++ [(k, false)]) b) (pickV vc)
    | none => none
  | .arith op x y => bind2 (av σ p x) (av σ p y) (arithR op)
  | .cmp op ty x y => bind2 (av σ p x) (av σ p y) fun v w => toR (cmpR op ty v w)
  | .eqa neg sh x y => bind2 (av σ p x) (av σ p y) fun v w => toR (eqaR neg sh v w)
  | .len ty x => bind1 (av σ p x) (lenR ty)
  | .minmax mx xs => match avs σ p xs with
    | some (.int k n :: vs) => toR (minmaxL mx (.int k n) vs)
    | _ => none
  | .faddr off x => bind1 (av σ p x) (faddrR off)
  | .iaddrS zero x i => bind2 (av σ p x) (av σ p i) (iaddrSR zero)
  | .iaddrA n sz x i => bind1 (av σ p x) fun v => iaddrAR n sz v i
  | .load n ag x => bind1 (av σ p x) (loadR σ.m n ag)
  | .store n x v => bind2 (av σ p x) (av σ p v) (storeR σ.m n)
  | .alloc z => some ⟨[], [], .ptr (64 * d) 0, [], some (.cells z), []⟩
  | .box n x => bind1 (av σ p x) (boxR n d)
  | .build z ps => match fillA σ p z ps with
    | some cs => Res.q (.agg cs)
    | none => none
  | .bslice n z ps => match fillS σ p z.length (List.replicate n z) ps with
    | some es => Res.q (.lst z es)
    | none => none
  | .call f xs => match avs σ p xs with
    | some vs => callR σ.m (Φ f) vs
    | none => none
  | _ => none

/-! ### Guards, regions, code -/

/-- The path of a guarded operation. -/
def pathG (g : Nat) (b : Bool) : AV → Option (List (Nat × Bool))
  | .bool _ => some [(g, b)]
  | .gd q (.bool _) => some (q ++ [(g, b)])
  | _ => none

def boolOf : AV → Option Bool
  | .bool c => some c
  | .gd _ (.bool c) => some c
  | _ => none
/-- A path holds. -/
def pathP (s : Nat → AV) : List (Nat × Bool) → Prop
  | [] => True
  | (g, b) :: p => boolOf (s g) = some b ∧ pathP s p
/-- A path as one Bool. -/
def pathB (s : Nat → AV) : List (Nat × Bool) → Bool
  | [] => true
  | (g, b) :: p => (match boolOf (s g) with
    | some c => c == b
    | none => false) && pathB s p

def mergeA (c : Bool) : AV → AV → Option AV
  | .int k a, .int k' b => if k = k' then some (.int k (bif c then a else b)) else none
  | .bool a, .bool b => some (.bool (bif c then a else b))
  | .lst z es, .lst z' es' => if z.length = z'.length then some (.lst z' (bif c then es else es')) else none
  | _, _ => none
def mergeL (c : Bool) : List AV → List AV → Option (List AV)
  | [], [] => some []
  | x :: xs, y :: ys => match mergeA c x y, mergeL c xs ys with
    | some v, some vs => some (v :: vs)
    | _, _ => none
  | _, _ => none
/-- The blocks behind an operation that may not have run. -/
def mergeU (c : Bool) (m : Nat → Option Blk) : List (Nat × Blk) → Option (List (Nat × Blk))
  | [] => some []
  | (r, .cells cs) :: us => match m r, mergeU c m us with
    | some (.cells cs'), some us' => match mergeL c cs cs' with
      | some cs'' => some ((r, .cells cs'') :: us')
      | none => none
    | _, _ => none
  | _ :: _ => none

def guardL (s : Nat → AV) (p : List (Nat × Bool)) : List Prop → List Prop
  | [] => []
  | q :: qs => (pathP s p → q) :: guardL s p qs

/-- The outcome of a guarded operation, out of that of the operation. -/
def guardR (σ : St) (p : List (Nat × Bool)) (r : Option Res) : Option Res :=
  match r with
  | some ⟨pre, _, v, [], none, t⟩ => some ⟨guardL σ.s p pre, [], .gd p v, [], none, t⟩
  | some ⟨pre, _, v, u :: us, none, t⟩ => match p, mergeU (pathB σ.s p) σ.m (u :: us) with
    | [_], some us' => some ⟨guardL σ.s p pre, [], .gd p v, us', none, t⟩
    | _, _ => none
  | _ => none

/-- An operation with its guard. -/
def evG (Φ : Nat → Option Ctr) (o : RO) (σ : St) : Option Res :=
  match o.guard with
  | none => evOp Φ o.op (o.dst.getD 0) [] σ
  | some (g, b) => match pathG g b (σ.s g) with
    | some p => guardR σ p (evOp Φ o.op (o.dst.getD 0) p σ)
    | none => none

def updL (m : Nat → Option Blk) : List (Nat × Blk) → Nat → Option Blk
  | [] => m
  | (r, b) :: us => updL (updM m r (some b)) us

/-- The state behind an operation. -/
def St.put (σ : St) : Option Nat → Res → St
  | none, ⟨_, _, _, us, _, _⟩ => ⟨σ.s, updL σ.m us⟩
  | some d, ⟨_, _, v, us, none, _⟩ => ⟨upd σ.s d v, updL σ.m us⟩
  | some d, ⟨_, _, v, us, some b, _⟩ => ⟨upd (killS (64 * d) σ.s) d v, updM (killM (64 * d) (updL σ.m us)) (64 * d) (some (killB (64 * d) b))⟩

def askL : List Prop → Prop → Prop
  | [], K => K
  | q :: qs, K => q ∧ askL qs K
def knowL : List Prop → Prop → Prop
  | [], K => K
  | q :: qs, K => q → knowL qs K

/-- The operations one behind the other. -/
def evOps (Φ : Nat → Option Ctr) : List RO → St → (St → Prop) → Prop
  | [], σ, K => K σ
  | o :: rest, σ, K => match evG Φ o σ with
    | none => False
    | some r => askL r.pre (knowL r.post (evOps Φ rest (σ.put o.dst r) K))

/-! ### Regions whose order is drawn -/
/-- The slots of a guarded value's path. -/
def pslots : AV → List Nat
  | .gd p _ => p.map (·.1)
  | _ => []
/-- The blocks that an outcome writes or makes. -/
def idsR (d : Option Nat) (r : Res) : List Nat := r.ups.map (·.1) ++ (match r.new, d with
  | some _, some d => [64 * d]
  | _, _ => [])
def optN : Option Nat → List Nat
  | some d => [d]
  | none => []
def chkR (d1 : Option Nat) (r1 : Res) (d : Option Nat) (r : Res) : Bool :=
  disjN (pslots r.val) (optN d1) && disjN (pslots r1.val) (optN d) && disjN (idsR d1 r1) (r.tch ++ idsR d r) && disjN (idsR d r) r1.tch
/-- Nothing in an outcome refers to block b. -/
def noMen (b : Nat) (r : Res) : Prop :=
  kill3 b r.val = r.val ∧ (r.ups.map fun u => (u.1, killB b u.2)) = r.ups ∧ ((r.ups.map (·.1)).contains b) = false ∧ (match r.new with
    | some k => killB b k = k
    | none => True)
def newMen (d : Option Nat) (r r1 : Res) : Prop := match r.new, d with
  | some _, some d => noMen (64 * d) r1
  | _, _ => True
/-- An outcome ahead of another: those that need not wait for one another may change places. -/
def pairOK (m : Nat) (d1 : Option Nat) (r1 : Res) (af : List Nat) (d : Option Nat) (r : Res) : Prop :=
  newMen d r r1 ∧ (match af.contains m with
    | true => True
    | false => chkR d1 r1 d r = true ∧ newMen d1 r1 r)
def newOK (d : Option Nat) (r : Res) : Prop := match r.new, d with
  | some b, some d => r.ups = [] ∧ killB (64 * d) b = b
  | some _, none => False
  | none, _ => True
def pairD : List (Nat × Option Nat × Res) → List Nat → Option Nat → Res → Prop → Prop
  | [], _, _, _, K => K
  | (m, d1, r1) :: D, af, d, r, K => pairOK m d1 r1 af d r ∧ pairD D af d r K
def knowD : List (Nat × Option Nat × Res) → Prop → Prop
  | [], K => K
  | (_, _, r) :: D, K => knowL r.post (knowD D K)
/-- The blocks that a region makes are forgotten ahead of it. -/
def preK : List RO → St → St
  | [], σ => σ
  | o :: l, σ => match o.dst, needD o.op with
    | some d, true => preK l ⟨killS (64 * d) σ.s, updM (killM (64 * d) σ.m) (64 * d) none⟩
    | _, _ => preK l σ
def evD (Φ : Nat → Option Ctr) : List RO → Nat → List (Nat × Option Nat × Res) → St → (St → Prop) → Prop
  | [], _, D, σ, K => knowD D (K σ)
  | o :: rest, n, D, σ, K => match evG Φ o σ with
    | none => False
    | some r => newOK o.dst r ∧ askL r.pre (pairD D o.after o.dst r (evD Φ rest (n + 1) ((n, o.dst, r) :: D) (σ.put o.dst r) K))

/-- A state that is written out: the slots and the blocks that are known. -/
structure SL where
  l : List (Nat × AV)
  b : List (Nat × Blk)
def lookL : List (Nat × AV) → Nat → AV
  | [] => fun _ => .junk
  | (d, v) :: l => upd (lookL l) d v
def lookM : List (Nat × Blk) → Nat → Option Blk
  | [] => fun _ => none
  | (r, b) :: l => updM (lookM l) r (some b)
def SL.st (S : SL) : St := ⟨lookL S.l, lookM S.b⟩

/-- What may be forgotten of a value: a nil slice is one without elements. -/
def leA : AV → AV → Prop
  | .nil, .lst _ es => es = []
  | x, y => x = y
def leL (s : Nat → AV) : List (Nat × AV) → Prop
  | [] => True
  | (d, v) :: l => leA (s d) v ∧ leL s l
def leM (m : Nat → Option Blk) : List (Nat × Blk) → Prop
  | [] => True
  | (r, b) :: l => m r = some b ∧ leM m l
def SL.ge (S : SL) (σ : St) : Prop := leL σ.s S.l ∧ leM σ.m S.b

/-- A loop's invariant: what it ranges over, the states at the head, a measure. -/
structure LI where
  ι : Type
  S : ι → SL
  μ : ι → Nat
  /-- what every round keeps of the first -/
  R : ι → ι → Prop

def hasG (ops : List RO) : Bool := ops.any fun o => o.guard.isSome
def endR (ops : List RO) (σ : St) : St := match hasG ops with
  | true => ⟨ungdS σ.s, σ.m⟩
  | false => σ

def kN (K : Exit → St → Prop) : St → Prop := fun σ => K .normal σ
def kSeq (E : St → (Exit → St → Prop) → Prop) (K : Exit → St → Prop) : Exit → St → Prop
  | .normal, σ => E σ K
  | .exit i, σ => K (.exit i) σ
  | .goto l, σ => K (.goto l) σ
  | .ret, σ => K .ret σ
  | .panic c, σ => K (.panic c) σ
  | .outgrown, σ => K .outgrown σ
def kBlk (id : Nat) (K : Exit → St → Prop) : Exit → St → Prop
  | .exit i, σ => match i == id with
    | true => K .normal σ
    | false => K (.exit i) σ
  | .normal, σ => K .normal σ
  | .goto l, σ => K (.goto l) σ
  | .ret, σ => K .ret σ
  | .panic c, σ => K (.panic c) σ
  | .outgrown, σ => K .outgrown σ
def kLoop (L : LI) (i0 i : L.ι) (K : Exit → St → Prop) : Exit → St → Prop
  | .normal, σ => ∃ j, (L.S j).ge σ ∧ L.R i0 j ∧ L.μ j < L.μ i
  | .exit i, σ => K (.exit i) σ
  | .goto l, σ => K (.goto l) σ
  | .ret, σ => K .ret σ
  | .panic c, σ => K (.panic c) σ
  | .outgrown, σ => K .outgrown σ

def kEnd (ops : List RO) (K : Exit → St → Prop) : St → Prop := fun σ => K .normal (endR ops σ)

def evC (Φ : Nat → Option Ctr) (I : Nat → LI) : RC → St → (Exit → St → Prop) → Prop
  | .skip, σ, K => K .normal σ
  | .region ops false, σ, K => evOps Φ ops σ (kEnd ops K)
  | .region ops true, σ, K => evD Φ ops 0 [] (preK ops σ) (kEnd ops K)
  | .seq a b, σ, K => evC Φ I a σ (kSeq (evC Φ I b) K)
  | .cond c t e, σ, K => match ar σ c with
    | .bool b => (b = true → evC Φ I t σ K) ∧ (b = false → evC Φ I e σ K)
    | _ => False
  | .block id b, σ, K => evC Φ I b σ (kBlk id K)
  | .loop n b, σ, K => ∃ i0, ((I n).S i0).ge σ ∧ (I n).R i0 i0 ∧ ∀ i, (I n).R i0 i → evC Φ I b ((I n).S i).st (kLoop (I n) i0 i K)
  | .exit id, σ, K => K (.exit id) σ
  | .ret, σ, K => K .ret σ

/-! ### A function's results -/
def retV (σ : St) : RV → Option AV
  | .t n => some (σ.s n)
  | .c p n ag => match σ.s p with
    | .ptr r o => match σ.m r with
      | some (.cells cs) => valOf ag n cs o
      | _ => none
    | _ => none
def retL (σ : St) : List RV → Option (List AV)
  | [] => some []
  | r :: rs => match retV σ r, retL σ rs with
    | some v, some vs => some (v :: vs)
    | _, _ => none
def leAs : List AV → List AV → Prop
  | [], [] => True
  | x :: xs, y :: ys => leA x y ∧ leAs xs ys
  | _, _ => False
def leV1 : AV → AV → Prop
  | .agg xs, .agg ys => leAs xs ys
  | x, y => leA x y
def leVs : List AV → List AV → Prop
  | [], [] => True
  | x :: xs, y :: ys => leV1 x y ∧ leVs xs ys
  | _, _ => False
def resV : List AV → AV → Prop
  | [v], r => leV1 v r
  | vs, .tup ys => leVs vs ys
  | _, _ => False
/-- What a function hands back: a value that may be taken for r; and (where it keeps a block 0) the cells cs there. -/
def retOK (rv : List RV) (r : AV) (st : Bool) (cs : List AV) (σ : St) : Prop :=
  (match retL σ rv with
   | some vs => resV vs r
   | none => False) ∧
  (match st with
   | false => True
   | true => match σ.m 0 with
     | some (.cells ds) => leAs ds cs
     | _ => False)
def kRet (rv : List RV) (r : AV) (st : Bool) (cs : List AV) : Exit → St → Prop
  | .ret, σ => retOK rv r st cs σ
  | .normal, σ => retOK rv r st cs σ
  | .exit _, _ => False
  | .goto _, _ => False
  | .panic _, _ => False
  | .outgrown, _ => False

def initS (xs : List AV) : Nat → AV := fun k => xs.getD k .junk
def initM (st : Bool) (cs : List AV) : Nat → Option Blk := match st with
  | false => fun _ => none
  | true => updM (fun _ => none) 0 (some (.cells cs))

end Go.Ev
