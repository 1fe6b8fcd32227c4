/- A part of the proof: symbolic evaluation of the program's functions, proved sound against the model; no condition. -/
/-
  The framework 'Ev', part A: abstract values, a small intermediate code, the compiler from the model's code into it, and its evaluator, which turns a piece of code and a symbolic state into a proposition.
  Conditions: none; this text only defines.
-/
import Derived.WalkKit
namespace Go.Ev
open Go Go.RowKit

/-- An abstract value. -/
inductive AV where
  | int (k : IntKind) (n : Int)
  | bool (b : Bool)
  | str (s : List UInt8)
  | agg (cs : List AV)
  | tup (vs : List AV)
  | lst (z : List AV) (es : List (List AV))
  | ep (z : List AV) (es : List (List AV)) (i off : Nat)
  | ptr (r off : Nat)
  | ap (r off n i : Nat)
  | vw (r sz lo hi : Nat)
  | sv (r sz lo hi : Nat)
  | bp (r sz idx off : Nat)
  | fr (i t : Nat) (z : List AV) (es : List (List AV))
  | fp (i : Nat) (cs : List AV)
  | nb (e : Bool)
  | fn (f : Nat)
  | nil
  | gd (p : List (Nat × Bool)) (v : AV)
  | junk
  deriving Inhabited

/-- A block that the call keeps track of. -/
inductive Blk where
  | cells (cs : List AV)
  | buf (t : Nat) (z : List AV) (es : List (List AV))
  /-- A row of one's own of which the slice sees a part. -/
  | qb (t : Nat) (z : List AV) (es : List (List AV))
  /-- A map whose values are all true; its keys. -/
  | ms (n : Nat) (ks : List (List Int))
  /-- A function value with a captured pointer to a row that nobody writes. -/
  | clo (f : Nat) (z : List AV) (es : List (List AV)) (i off : Nat)
  /-- Nobody's any more: an outcome says so of a block, no state has it. -/
  | dead

/-- An operand. -/
inductive A where
  | t (n : Nat)
  | c (v : AV)

inductive IOp where
  | mov (x : A)
  | pick (c a b : A)
  | arith (op : BinOp) (x y : A)
  | cmp (op : BinOp) (ty : Nat) (x y : A)
  | eqa (neg : Bool) (sh : List Nat) (x y : A)
  | not (x : A)
  | neg (x : A)
  | conv (k : IntKind) (x : A)
  | b2s (x : A)
  | len (ty : Nat) (x : A)
  | minmax (mx : Bool) (xs : List A)
  | faddr (off : Nat) (x : A)
  | fld (off n : Nat) (ag : Bool) (x : A)
  | iaddrS (zero : List AV) (x i : A)
  | iaddrA (n sz : Nat) (x i : A)
  | load (n : Nat) (ag : Bool) (x : A)
  | store (n : Nat) (x v : A)
  | alloc (zero : List AV)
  | box (n : Nat) (x : A)
  | build (zero : List AV) (ps : List (Nat × Nat × A))
  | bslice (len : Nat) (zero : List AV) (ps : List (Nat × A))
  | bsliceO (e len : Nat) (zero : List AV) (ps : List (Nat × A))
  | eqnil (neg : Bool) (x : A)
  | mkstr (x : A)
  | shl (n : Nat) (x : A)
  | shr (n : Nat) (x : A)
  | extract (i : Nat) (x : A)
  | nilchk (x : A)
  | call (f : Nat) (xs : List A)
  | append (e bytes : Nat) (z : List AV) (x y : A)
  | appD (e bytes : Nat) (z : List AV) (x y : A)
  | appZ (e bytes : Nat) (z : List AV) (x y : A)
  | slice (sz : Nat) (x : A) (lo hi : Option A)
  | mkslice (e bytes : Nat) (zero : List AV) (l c : A)
  | mkF (bytes : Nat) (zero : List AV) (l c : A)
  | copy (sz : Nat) (x y : A)
  | s2b (x : A)
  | idxS (x i : A)
  | idxV (n sz : Nat) (ag : Bool) (x i : A)
  | callv (fs : List Nat) (x : A) (xs : List A)
  | mkmap (n : Nat)
  | mlook (n : Nat) (x i : A)
  | mput (n : Nat) (x i : A)
  | mkclo (f : Nat) (x : A)

/-- An operation: where it writes, what it is, its guard (a slot and the value wanted), the operations that it waits for. -/
structure RO where
  dst : Option Nat
  op : IOp
  guard : Option (Nat × Bool)
  after : List Nat

/-- A choice. -/
def pickOf : IOp → Option (A × A × A)
  | .mov _ => none
  | .pick c x y => some (c, x, y)
  | .arith _ _ _ => none
  | .cmp _ _ _ _ => none
  | .eqa _ _ _ _ => none
  | .not _ => none
  | .neg _ => none
  | .conv _ _ => none
  | .b2s _ => none
  | .len _ _ => none
  | .minmax _ _ => none
  | .faddr _ _ => none
  | .fld _ _ _ _ => none
  | .iaddrS _ _ _ => none
  | .iaddrA _ _ _ _ => none
  | .load _ _ _ => none
  | .store _ _ _ => none
  | .alloc _ => none
  | .box _ _ => none
  | .build _ _ => none
  | .bslice _ _ _ => none
  | .bsliceO _ _ _ _ => none
  | .eqnil _ _ => none
  | .mkstr _ => none
  | .shl _ _ => none
  | .shr _ _ => none
  | .extract _ _ => none
  | .nilchk _ => none
  | .call _ _ => none
  | .append _ _ _ _ _ => none
  | .appD _ _ _ _ _ => none
  | .appZ _ _ _ _ _ => none
  | .slice _ _ _ _ => none
  | .mkslice _ _ _ _ _ => none
  | .mkF _ _ _ _ => none
  | .copy _ _ _ => none
  | .s2b _ => none
  | .idxS _ _ => none
  | .idxV _ _ _ _ _ => none
  | .callv _ _ _ => none
  | .mkmap _ => none
  | .mlook _ _ _ => none
  | .mput _ _ _ => none
  | .mkclo _ _ => none
inductive RC where
  | skip
  | region (ops : List RO) (draw : Bool)
  | seq (a b : RC)
  | cond (c : A) (t e : RC)
  | block (id : Nat) (b : RC)
  | loop (n : Nat) (b : RC)
  /-- Ahead of b the buffer in a slot is frozen. -/
  | ghost (k : Nat) (b : RC)
  /-- Ahead of b what is known is cut down to what the invariant n names. -/
  | cut (n : Nat) (b : RC)
  /-- A region in the text's order whose guards are looked at one by one. -/
  | split (ops : List RO)
  /-- The same, where the order is drawn. -/
  | splitD (ops : List RO)
  /-- A literal of a map that is looked up at once: makeMap m, its entries, a := m, b := x, c := lookup a b, d := c. -/
  | mreg (m : Nat) (es : List (Int × Int)) (a b : Nat) (x : A) (c d : Nat)
  | exit (id : Nat)
  | ret

/-! ### The compiler -/

def constAV : Value → Option AV
  | .int k n => some (.int k n)
  | .bool b => some (.bool b)
  | .string s => some (.str s.data.toList)
  | .slice none 0 0 => some .nil
  | .func (.func f) first cap => if first.size = 0 ∧ cap.size = 0 then some (.fn f) else none
  | _ => none

def constAVs : List Value → Option (List AV)
  | [] => some []
  | v :: vs => match constAV v, constAVs vs with
    | some a, some as => some (a :: as)
    | _, _ => none

/-- A constant that nobody looks at. -/
def idle : Value → Option AV
  | .pointer none => some .junk
  | .nilFunc => some .junk
  | _ => none
def compA : Operand → Option A
  | .tmp t => some (.t t)
  | .const v => ((constAV v).or (idle v)).map .c
  | .func f => some (.c (.fn f))
  | .global _ => none

def compAs : List Operand → Option (List A)
  | [] => some []
  | x :: xs => match compA x, compAs xs with
    | some a, some as => some (a :: as)
    | _, _ => none

mutual
/-- The kinds of the cells of a type that '==' compares cell by cell: 0 an integer, 1 a bool, 2 a string. -/
def shapeOf (P : Program) : Nat → TypeId → Option (List Nat)
  | 0, _ => none
  | d + 1, t => match P.underlying t with
    | some .bool => some [1]
    | some (.int _) => some [0]
    | some .string => some [2]
    | some (.struct fs) => if P.stoodInHeld t then none else shapeFields P d fs.toList 0
    | some (.array n e) => match shapeOf P d e, P.info? e with
      | some s, some i => if i.size = s.length then some (List.replicate n s).flatten else none
      | _, _ => none
    | _ => none
def shapeFields (P : Program) : Nat → List Field → Nat → Option (List Nat)
  | _, [], _ => some []
  | 0, _ :: _, _ => none
  | d + 1, f :: fs, off =>
    if f.name = "_" ∨ f.offset ≠ off then none else
    match shapeOf P d f.type, P.info? f.type with
    | some s, some i => if i.size = s.length then (shapeFields P d fs (off + s.length)).map (s ++ ·) else none
    | _, _ => none
end

def sizeP (P : Program) (t : TypeId) : Option Nat := (P.info? t).map (·.size)
def aggP (P : Program) (t : TypeId) : Bool := match P.underlying t with
  | some (.struct _) | some (.array _ _) => true
  | _ => false
def zeroP (P : Program) (t : TypeId) : Option (List AV) := match (P.info? t).bind (·.zero) with
  | some z => constAVs z.cells.toList
  | none => none

def compParts (P : Program) (fs : Array Field) : List (Nat × Operand) → Option (List (Nat × Nat × A))
  | [] => some []
  | (i, x) :: ps => match fs[i]?, compA x, compParts P fs ps with
    | some f, some a, some r => match sizeP P f.type with
      | some s => some ((f.offset, s, a) :: r)
      | none => none
    | _, _, _ => none
def compPartsA (sz : Nat) : List (Nat × Operand) → Option (List (Nat × Nat × A))
  | [] => some []
  | (i, x) :: ps => match compA x, compPartsA sz ps with
    | some a, some r => some ((i * sz, sz, a) :: r)
    | _, _ => none
def compPartsS : List (Nat × Operand) → Option (List (Nat × A))
  | [] => some []
  | (i, x) :: ps => match compA x, compPartsS ps with
    | some a, some r => some ((i, a) :: r)
    | _, _ => none

def isCmp : BinOp → Bool
  | .eql | .neq | .lss | .leq | .gtr | .geq => true
  | _ => false
def isEq : BinOp → Bool
  | .eql | .neq => true
  | _ => false
def isNeq : BinOp → Bool
  | .neq => true
  | _ => false
def isArith : BinOp → Bool
  | .add | .sub | .mul | .quo | .rem | .and | .or | .xor | .andNot => true
  | _ => false

def compO (o : Option Operand) : Option (Option A) := match o with
  | none => some none
  | some x => (compA x).map some

/-- May the function be entered: it has a body of its own. -/
def enterable (P : Program) (f : Nat) : Bool := match P.funcs[f]? with
  | some fn => fn.body.isSome && !(fn.name == "runtime.NumGoroutine")
  | none => false
def valFs (P : Program) : List Nat := (List.range P.funcs.size).filter (enterable P)

def compCall (P : Program) (dr : Bool) (c : Call) : Option IOp :=
  match c.callee, compAs c.args.toList with
  | .value (.tmp t), some xs => some (.callv (valFs P) (.t t) xs)
  | .value (.func f), some xs => match P.funcs[f]? with
    | some fn => if fn.body.isSome = true ∧ (fn.name == "runtime.NumGoroutine") = false then some (.call f xs) else none
    | none => none
  | .builtin .len, some [x] => match (c.argTypes[0]?).bind P.underlying with
    | some (.slice _) => some (.len 0 x)
    | some .string => some (.len 1 x)
    | _ => none
  | .builtin .min, some xs => some (.minmax false xs)
  | .builtin .max, some xs => some (.minmax true xs)
  | .builtin .append, some [x, y] => match (c.argTypes[0]?).bind P.underlying, (c.argTypes[1]?).bind P.underlying with
    | some (.slice e), some (.slice _) => match P.info? e with
      | some i => match zeroP P e with
        | some z => if z.length = i.size ∧ i.size ≠ 0 ∧ c.argTypes.size = 2 ∧ c.argTypes[0]? = c.argTypes[1]? then (match dr with | true => some (.appD e i.bytes z x y) | false => some (.append e i.bytes z x y)) else none
        | none => none
      | none => none
    | some (.slice e), some (.int _) => match P.info? e with
      | some i => match zeroP P e with
        | some z => if (z.length = i.size ∧ i.size ≠ 0 ∧ c.argTypes.size = 2) ∧ dr = false then some (.appZ e i.bytes z x y) else none
        | none => none
      | none => none
    | _, _ => none
  | .builtin .copy, some [x, y] => match (c.argTypes[0]?).bind P.underlying with
    | some (.slice e) => if c.argTypes.size = 2 then (sizeP P e).map fun s => .copy s x y else none
    | _ => none
  | _, _ => none

/-- Where is the operand a constant nil slice? -/
def isNilC : Operand → Bool
  | .const (.slice none 0 0) => true
  | _ => false
def compShift (left : Bool) (x : Operand) : Operand → Option IOp
  | .const (.int _ (.ofNat n)) => (compA x).map (match left with | true => .shl n | false => .shr n)
  | _ => none
/-- The kinds of keys: 0 bytes, 2 pairs of whole numbers. -/
def keyN (P : Program) (kt : TypeId) : Option Nat := match P.underlying kt with
  | some (.int .u8) => some 0
  | some (.array 2 e) => match P.underlying e, shapeOf P 60 kt, sizeP P e with
    | some (.int .i64), some [0, 0], some 1 => some 2
    | _, _, _ => none
  | _ => none
/-- A map whose values are bools. -/
def mapN (P : Program) (t : TypeId) : Option Nat := match P.underlying t with
  | some (.map kt et) => match (P.info? et).bind (·.zero) with
    | some (.bool false) => keyN P kt
    | _ => none
  | _ => none
def isTrueC : Operand → Bool
  | .const (.bool true) => true
  | _ => false
/-- One operation; dr: is the region's order drawn. -/
def compOp (P : Program) (dr own : Bool) (o : Oper) : Option IOp :=
  match o.op with
  | .move x | .assign x => (compA x).map .mov
  | .pick c a b => match compA c, compA a, compA b with
    | some c, some a, some b => some (.pick c a b)
    | _, _, _ => none
  | .alloc e => match zeroP P e, sizeP P e with
    | some z, some n => if z.length = n then some (.alloc z) else none
    | _, _ => none
  | .box e x => match compA x, sizeP P e with
    | some a, some n => some (.box n a)
    | _, _ => none
  | .build t ps => match zeroP P t, P.underlying t with
    | some z, some (.struct fs) => if fs.all (fun f => (P.info? f.type).isSome) then (compParts P fs ps.toList).map (.build z) else none
    | some z, some (.array _ e) => match sizeP P e with
      | some s => (compPartsA s ps.toList).map (.build z)
      | none => none
    | _, _ => none
  | .buildSlice t n ps => match P.underlying t with
    | some (.slice e) => match sizeP P e, zeroP P e, compPartsS ps.toList with
      | some s, some z, some r => if n * s ≤ 16777216 ∧ z.length = s ∧ s ≠ 0 then (match own with | false => some (.bslice n z r) | true => some (.bsliceO e n z r)) else none
      | _, _, _ => none
    | _ => none
  | .load t x => match compA x, sizeP P t with
    | some a, some n => if (P.underlying t).isSome then some (.load n (aggP P t) a) else none
    | _, _ => none
  | .store t x v => match compA x, compA v, sizeP P t with
    | some a, some b, some n => some (.store n a b)
    | _, _, _ => none
  | .nilCheck x => (compA x).map .nilchk
  | .binOp .shl t x y _ => match P.underlying t with
    | some (.int _) => compShift true x y
    | _ => none
  | .binOp .shr t x y _ => match P.underlying t with
    | some (.int _) => compShift false x y
    | _ => none
  | .binOp op t x y _ => match compA x, compA y with
    | some a, some b => match P.underlying t with
      | some (.slice _) => if isEq op && isNilC y then some (.eqnil (isNeq op) a) else none
      | some (.int _) => if isCmp op then some (.cmp op 0 a b) else if isArith op then some (.arith op a b) else none
      | some .bool => if isEq op then some (.cmp op 1 a b) else none
      | some .string => if isEq op then some (.cmp op 2 a b) else none
      | some (.struct _) => if isEq op && !P.eqGuardType P.depth t then (shapeOf P 60 t).map fun s => .eqa (isNeq op) s a b else none
      | _ => none
    | _, _ => none
  | .unOp .not _ x => (compA x).map .not
  | .unOp .neg _ x => (compA x).map .neg
  | .convert s d x => match compA x, P.underlying s, P.underlying d with
    | some a, some (.int _), some (.int k) => some (.conv k a)
    | some a, some (.slice e), some .string => match P.underlying e with
      | some (.int .u8) => some (.b2s a)
      | _ => none
    | some a, some .string, some (.slice e) => match P.underlying e with
      | some (.int .u8) => some (.s2b a)
      | _ => none
    | some a, some (.slice _), some (.slice e) => match P.underlying e with
      | some (.int .u8) => if s == d then some (.mkstr a) else none
      | _ => none
    | _, _, _ => none
  | .makeSlice t l c => match P.underlying t with
    | some (.slice e) => match P.info? e, zeroP P e, compA l, compA c with
      | some i, some z, some l, some c => if z.length = i.size ∧ i.size ≠ 0 then (match own with | false => some (.mkF i.bytes z l c) | true => some (.mkslice e i.bytes z l c)) else none
      | _, _, _, _ => none
    | _ => none
  | .slice t x l h none => match P.underlying t with
    | some (.slice e) => match sizeP P e, compA x, compO l, compO h with
      | some s, some a, some l, some h => some (.slice s a l h)
      | _, _, _, _ => none
    | _ => none
  | .fieldAddr t x f => match P.underlying t, compA x with
    | some (.struct fs), some a => match fs[f]? with
      | some fd => match sizeP P fd.type with
        | some s => if s ≠ 0 then some (.faddr fd.offset a) else none
        | none => none
      | none => none
    | _, _ => none
  | .field t x f => match P.underlying t, compA x with
    | some (.struct fs), some a => match fs[f]? with
      | some fd => if (P.underlying fd.type).isSome then (sizeP P fd.type).map fun s => .fld fd.offset s (aggP P fd.type) a else none
      | none => none
    | _, _ => none
  | .indexAddr t x i => match P.underlying t, compA x, compA i with
    | some (.slice e), some a, some b => match sizeP P e, zeroP P e with
      | some s, some z => if z.length = s then some (.iaddrS z a b) else none
      | _, _ => none
    | some (.array n e), some a, some b => (sizeP P e).map fun s => .iaddrA n s a b
    | _, _, _ => none
  | .index t x i => match P.underlying t, compA x, compA i with
    | some .string, some a, some b => some (.idxS a b)
    | some (.array n e), some a, some b => if (P.underlying e).isSome then (sizeP P e).map fun s => .idxV n s (aggP P e) a b else none
    | _, _, _ => none
  | .extract x i => (compA x).map (.extract i)
  | .makeMap t none => (mapN P t).map .mkmap
  | .lookup t x i false => match mapN P t, compA x, compA i with
    | some n, some a, some b => some (.mlook n a b)
    | _, _, _ => none
  | .mapUpdate t x i v => match mapN P t, compA x, compA i, isTrueC v with
    | some n, some a, some b, true => some (.mput n a b)
    | _, _, _, _ => none
  | .makeFunc (.func f) fi ca => match fi.toList, ca.toList with
    | [], [x] => (compA x).map (.mkclo f)
    | _, _ => none
  | .call c => compCall P dr c
  | _ => none

def compGuard (ops : Array Oper) (o : Oper) : Option (Option (Nat × Bool)) := match o.guard with
  | none => some none
  | some (j, b) => match (ops[j]?).bind (·.dst) with
    | some s => some (some (s, b))
    | none => none

/-- Is the slot an operand of a call or of something that stores it? -/
def takesT (d : Nat) (o : Oper) : Bool :=
  (match o.op with
   | .call c => (match c.callee with
     | .builtin .len => false
     | _ => true)
   | .build _ _ | .buildSlice _ _ _ | .store _ _ _ | .box _ _ => true
   | _ => false) && o.op.operands.toList.any fun | .tmp t => t == d | _ => false
/-- Is the slot an operand of a call of a function, or of a value that is built? -/
def takesF (d : Nat) (o : Oper) : Bool :=
  (match o.op with
   | .call c => (match c.callee with
     | .builtin _ => false
     | _ => true)
   | .build _ _ | .buildSlice _ _ _ => true
   | _ => false) && o.op.operands.toList.any fun | .tmp t => t == d | _ => false
/-- May the literal be kept as the function's own? -/
def ownLit0 (dr : Bool) (ops : Array Oper) (o : Oper) : Bool := match dr, o.dst with
  | false, some d => !ops.toList.any (takesF d)
  | false, none => true
  | true, some d => !ops.toList.any (takesT d)
  | true, none => false
/-- Is the slot an operand of a value that is built? -/
def takesB (d : Nat) (o : Oper) : Bool :=
  (match o.op with
   | .build _ _ | .buildSlice _ _ _ => true
   | _ => false) && o.op.operands.toList.any fun | .tmp t => t == d | _ => false
/-- What is made is kept as the function's own, unless a value that is built takes it. -/
def ownLit (dr : Bool) (ops : Array Oper) (o : Oper) : Bool := match o.op, o.dst with
  | .makeSlice _ _ _, some d => !ops.toList.any (takesB d)
  | .makeSlice _ _ _, none => true
  | _, _ => ownLit0 dr ops o
def compOps (P : Program) (dr : Bool) (ops : Array Oper) : List Oper → Option (List RO)
  | [] => some []
  | o :: rest => match compOp P dr (ownLit dr ops o) o, compGuard ops o, compOps P dr ops rest with
    | some i, some g, some r => some (⟨o.dst, i, g, (o.after.toList.filter fun e => Region.binds .any e).map (·.on)⟩ :: r)
    | _, _, _ => none

def needD : IOp → Bool
  | .alloc _ | .box _ _ | .call _ _ | .append _ _ _ _ _ | .appD _ _ _ _ _ | .appZ _ _ _ _ _ | .mkslice _ _ _ _ _ | .bsliceO _ _ _ _ => true
  | .mkmap _ | .mkclo _ _ | .slice _ _ _ _ => true
  | _ => false

/-- Each operation writes a slot of its own, of the N slots; a guard's slot is written ahead of it. -/
def okReg (N : Nat) : List Nat → List RO → Bool
  | _, [] => true
  | W, o :: rest =>
    (match o.guard with
     | none => true
     | some (g, _) => W.contains g) &&
    (match o.dst with
     | none => (match o.op, o.guard with | .store _ _ _, none => true | .mput _ _ _, none => true | _, _ => false) && okReg N W rest
     | some d => !W.contains d && (!needD o.op || decide (d + 1 ≠ 0)) && decide (d < N) && okReg N (d :: W) rest)

/-- The slots that an operation looks at. -/
def slotsA : A → List Nat
  | .t n => [n]
  | .c _ => []
def slotsO : Option A → List Nat
  | none => []
  | some x => slotsA x
def slotsL : List A → List Nat
  | [] => []
  | x :: xs => slotsA x ++ slotsL xs
def slotsF : List (Nat × Nat × A) → List Nat
  | [] => []
  | (_, _, x) :: ps => slotsA x ++ slotsF ps
def slotsG : List (Nat × A) → List Nat
  | [] => []
  | (_, x) :: ps => slotsA x ++ slotsG ps
def IOp.reads : IOp → List Nat
  | .mov x | .not x | .neg x | .conv _ x | .b2s x | .s2b x | .mkstr x | .eqnil _ x | .shl _ x | .shr _ x | .len _ x | .faddr _ x | .fld _ _ _ x | .load _ _ x | .box _ x | .extract _ x | .nilchk x => slotsA x
  | .arith _ x y | .cmp _ _ x y | .eqa _ _ x y | .iaddrS _ x y | .iaddrA _ _ x y | .store _ x y | .append _ _ _ x y | .appD _ _ _ x y | .appZ _ _ _ x y | .mkslice _ _ _ x y | .mkF _ _ x y | .copy _ x y | .idxS x y | .idxV _ _ _ x y => slotsA x ++ slotsA y
  | .pick c x y => slotsA c ++ (slotsA x ++ slotsA y)
  | .minmax _ xs | .call _ xs => slotsL xs
  | .callv _ x xs => slotsA x ++ slotsL xs
  | .mkmap _ => []
  | .mlook _ x i | .mput _ x i => slotsA x ++ slotsA i
  | .mkclo _ x => slotsA x
  | .slice _ x l h => slotsA x ++ (slotsO l ++ slotsO h)
  | .alloc _ => []
  | .build _ ps => slotsF ps
  | .bslice _ _ ps => slotsG ps
  | .bsliceO _ _ _ ps => slotsG ps
def RO.reads (o : RO) : List Nat := (match o.guard with
  | some (g, _) => [g]
  | none => []) ++ o.op.reads

def addN : List Nat → List Nat → List Nat
  | [], l => l
  | x :: xs, l => addN xs (if l.contains x then l else x :: l)
def unionN (acc : List (List Nat)) : List Nat → List Nat → List Nat
  | [], l => l
  | e :: es, l => unionN acc es (addN (acc.getD e []) l)
/-- A region whose order is drawn: each operation waits, written out, for all that those it waits for wait for. -/
def closeGo : List RO → List (List Nat) → List RO
  | [], _ => []
  | o :: rest, acc => { o with after := unionN acc o.after (addN o.after []) } :: closeGo rest (acc ++ [unionN acc o.after (addN o.after [])])
def disjN (l l' : List Nat) : Bool := l.all fun x => !l'.contains x
/-- An operation that need not wait for another: neither looks at what the other writes. -/
def apartO (x y : RO) : Bool :=
  (match x.dst with
   | some d => !y.reads.contains d
   | none => true) &&
  (match y.dst with
   | some d => !x.reads.contains d
   | none => true)
def okDrawAt (raw cl : List RO) (n : Nat) (o : RO) : Bool :=
  (o.after.all fun e => decide (e < n)) && (((raw[n]?).map (·.after)).any fun as => as.all fun e => decide (e < n)) &&
  (match o.guard with
   | some (g, _) => o.after.any fun e => ((cl[e]?).bind (·.dst)) == some g
   | none => true) &&
  (o.after.all fun e => ((raw[n]?).map (·.after)).any fun as => as.contains e || as.any fun j => ((cl[j]?).map (·.after)).any (·.contains e)) &&
  ((List.range n).all fun m => o.after.contains m || (match cl[m]? with
    | some x => apartO x o
    | none => false))
def okDraw (raw cl : List RO) : Bool := (List.range cl.length).all fun n => match cl[n]? with
  | some o => okDrawAt raw cl n o
  | none => false
def drawn (l : List RO) : Option RC := match okDraw l (closeGo l []) with
  | true => some (.region (closeGo l []) true)
  | false => none

def lookI (n : Int) : List (Int × Int) → Int
  | [] => 0
  | (k, v) :: r => if n = k then v else lookI n r
def mapIns (m : Nat) (T : TypeId) : List Oper → List (Int × Int) × List Oper
  | [] => ([], [])
  | o :: rest => match o.dst, o.op, o.guard with
    | none, .insert T' (.tmp m') (.const (.int .u8 k)) (.const (.int .i64 v)), none =>
      if T' = T ∧ m' = m then ((k, v) :: (mapIns m T rest).1, (mapIns m T rest).2) else ([], o :: rest)
    | _, _, _ => ([], o :: rest)
def compM2 (P : Program) (N : Nat) (m : Nat) (T : TypeId) (es : List (Int × Int)) (o1 o2 o3 o4 : Oper) : Option RC :=
  match o1.dst, o1.op, o1.guard with
  | some a, .move (.tmp m'), none => match o2.dst, o2.op, o2.guard with
    | some b, .move x, none => match o3.dst, o3.op, o3.guard with
      | some c, .lookup T' (.tmp a') (.tmp b') false, none => match o4.dst, o4.op, o4.guard with
        | some d, .assign (.tmp c'), none => match compA x, P.underlying T with
          | some x, some (.map kt et) => match P.underlying kt, (P.info? et).bind (·.zero) with
            | some (.int .u8), some (.int .i64 0) => if m' = m ∧ a' = a ∧ b' = b ∧ c' = c ∧ T' = T ∧ (es.map (·.1)).Nodup ∧ m < N ∧ a < N ∧ b < N ∧ c < N ∧ d < N ∧ a ≠ b then some (.mreg m es a b x c d) else none
            | _, _ => none
          | _, _ => none
        | _, _, _ => none
      | _, _, _ => none
    | _, _, _ => none
  | _, _, _ => none
def compM (P : Program) (N : Nat) : List Oper → Option RC
  | [] => none
  | o0 :: rest => match o0.dst, o0.op, o0.guard with
    | some m, .makeMap T none, none => match (mapIns m T rest).2 with
      | [o1, o2, o3, o4] => compM2 P N m T (mapIns m T rest).1 o1 o2 o3 o4
      | _ => none
    | _, _, _ => none

def comp (P : Program) (N : Nat) : Code → Option RC
  | .skip => some .skip
  | .region _ ops d => match compOps P d ops ops.toList with
    | some l => if okReg N [] l then (match d with | true => drawn l | false => some (.region l false)) else none
    | none => if d then none else compM P N ops.toList
  | .seq a b => match comp P N a, comp P N b with
    | some a, some b => some (.seq a b)
    | _, _ => none
  | .cond c t e => match compA c, comp P N t, comp P N e with
    | some c, some t, some e => some (.cond c t e)
    | _, _, _ => none
  | .block id b => match comp P N b with
    | some b => some (.block id b)
    | none => none
  | .loop b => match comp P N b with
    | some b => some (.loop 0 b)
    | none => none
  | .exit id => some (.exit id)
  | .ret => some .ret
  | _ => none

/-- The loops' numbers struck. -/
def erase : RC → RC
  | .skip => .skip
  | .region l d => .region l d
  | .seq a b => .seq (erase a) (erase b)
  | .cond c t e => .cond c (erase t) (erase e)
  | .block id b => .block id (erase b)
  | .loop _ b => .loop 0 (erase b)
  | .ghost _ b => erase b
  | .cut _ b => erase b
  | .split l => .region l false
  | .splitD l => .region l true
  | .mreg m es a b x c d => .mreg m es a b x c d
  | .exit id => .exit id
  | .ret => .ret

/-- A result: a slot, or n cells behind the pointer in a slot. -/
inductive RV where
  | t (n : Nat)
  | c (p n : Nat) (ag : Bool)

def compRes (P : Program) : List ResultVar → Option (List RV)
  | [] => some []
  | .tmp t :: rs => (compRes P rs).map (.t t :: ·)
  | .cell p t :: rs => match sizeP P t, compRes P rs with
    | some n, some r => if (P.underlying t).isSome then some (.c p n (aggP P t) :: r) else none
    | _, _ => none

end Go.Ev
