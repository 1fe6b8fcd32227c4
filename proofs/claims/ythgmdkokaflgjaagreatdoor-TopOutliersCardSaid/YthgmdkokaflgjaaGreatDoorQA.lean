/- A part of the proof; no condition. -/
import Derived.WalkKit
import Derived.ChangeKeysEq
import Derived.DeepKeys
import Derived.Laws.OwnMore
set_option linter.unusedSimpArgs false
set_option linter.unusedVariables false
set_option linter.unusedSectionVars false
namespace Go.Ev
open Go Go.RowKit
theorem sI.{u} {α:Type u}(a b:α):(some a=some b) =(a=b):=Option.some.injEq a b
inductive AV where
 | int (k:IntKind) (n:Int)
 | bool (b:Bool)
 | str (s:List UInt8)
 | agg (cs:List AV)
 | tup (vs:List AV)
 | lst (z:List AV) (es:List (List AV))
 | ep (z:List AV) (es:List (List AV)) (i off:Nat)
 | ptr (r off:Nat)
 | ap (r off n i:Nat)
 | vw (r sz lo hi:Nat)
 | sv (r sz lo hi:Nat)
 | bp (r sz idx off:Nat)
 | fr (i t:Nat) (z:List AV) (es:List (List AV))
 | fp (i:Nat) (cs:List AV)
 | nb (e:Bool)
 | fn (f:Nat)
 | nil
 | gd (p:List (Nat×Bool)) (v:AV)
 | junk
 deriving Inhabited
inductive Blk where
 | cells (cs:List AV)
 | buf (t:Nat) (z:List AV) (es:List (List AV))
 | qb (t:Nat) (z:List AV) (es:List (List AV))
 | ms (n:Nat) (ks:List (List Int))
 | clo (f:Nat) (z:List AV) (es:List (List AV)) (i off:Nat)
 | dead
inductive A where
 | t (n:Nat)
 | c (v:AV)
inductive PV where
 | bad
 | shv (left:Bool)
 | sadd
 | ssl (lo hi:Bool)
 | nilp (neg:Bool)
 | glob
 | toArr (n:Nat)
inductive IOp where
 | pv (k:PV) (xs:List A)
 | mov (x:A)
 | pick (c a b:A)
 | arith (op:BinOp) (x y:A)
 | cmp (op:BinOp) (ty:Nat) (x y:A)
 | eqa (neg:Bool) (sh:List Nat) (x y:A)
 | not (x:A)
 | neg (x:A)
 | conv (k:IntKind) (x:A)
 | b2s (x:A)
 | len (ty:Nat) (x:A)
 | minmax (mx:Bool) (xs:List A)
 | faddr (off:Nat) (x:A)
 | fld (off n:Nat) (ag:Bool) (x:A)
 | iaddrS (zero:List AV) (x i:A)
 | iaddrA (n sz:Nat) (x i:A)
 | load (n:Nat) (ag:Bool) (x:A)
 | store (n:Nat) (x v:A)
 | alloc (zero:List AV)
 | box (n:Nat) (x:A)
 | build (zero:List AV) (ps:List (Nat×Nat×A))
 | bslice (len:Nat) (zero:List AV) (ps:List (Nat×A))
 | bsliceO (e len:Nat) (zero:List AV) (ps:List (Nat×A))
 | eqnil (neg:Bool) (x:A)
 | mkstr (x:A)
 | shl (n:Nat) (x:A)
 | shr (n:Nat) (x:A)
 | extract (i:Nat) (x:A)
 | nilchk (x:A)
 | call (f:Nat) (xs:List A)
 | append (e bytes:Nat) (z:List AV) (x y:A)
 | appD (e bytes:Nat) (z:List AV) (x y:A)
 | appZ (e bytes:Nat) (z:List AV) (x y:A)
 | slice (sz:Nat) (x:A) (lo hi:Option A)
 | mkslice (e bytes:Nat) (zero:List AV) (l c:A)
 | mkF (bytes:Nat) (zero:List AV) (l c:A)
 | copy (sz:Nat) (x y:A)
 | s2b (x:A)
 | idxS (x i:A)
 | idxV (n sz:Nat) (ag:Bool) (x i:A)
 | callv (fs:List Nat) (x:A) (xs:List A)
 | mkmap (n:Nat)
 | mlook (n:Nat) (x i:A)
 | mput (n:Nat) (x i:A)
 | mkclo (f:Nat) (x:A)
structure RO where
 dst:Option Nat
 op:IOp
 guard:Option (Nat×Bool)
 after:List Nat
def pickOf:IOp→Option (A×A×A)
 | .pv _ _=>none
 | .mov _=>none
 | .pick c x y=>some (c,x,y)
 | .arith _ _ _=>none
 | .cmp _ _ _ _=>none
 | .eqa _ _ _ _=>none
 | .not _=>none
 | .neg _=>none
 | .conv _ _=>none
 | .b2s _=>none
 | .len _ _=>none
 | .minmax _ _=>none
 | .faddr _ _=>none
 | .fld _ _ _ _=>none
 | .iaddrS _ _ _=>none
 | .iaddrA _ _ _ _=>none
 | .load _ _ _=>none
 | .store _ _ _=>none
 | .alloc _=>none
 | .box _ _=>none
 | .build _ _=>none
 | .bslice _ _ _=>none
 | .bsliceO _ _ _ _=>none
 | .eqnil _ _=>none
 | .mkstr _=>none
 | .shl _ _=>none
 | .shr _ _=>none
 | .extract _ _=>none
 | .nilchk _=>none
 | .call _ _=>none
 | .append _ _ _ _ _=>none
 | .appD _ _ _ _ _=>none
 | .appZ _ _ _ _ _=>none
 | .slice _ _ _ _=>none
 | .mkslice _ _ _ _ _=>none
 | .mkF _ _ _ _=>none
 | .copy _ _ _=>none
 | .s2b _=>none
 | .idxS _ _=>none
 | .idxV _ _ _ _ _=>none
 | .callv _ _ _=>none
 | .mkmap _=>none
 | .mlook _ _ _=>none
 | .mput _ _ _=>none
 | .mkclo _ _=>none
inductive RC where
 | skip
 | region (ops:List RO) (draw:Bool)
 | seq (a b:RC)
 | cond (c:A) (t e:RC)
 | block (id:Nat) (b:RC)
 | loop (n:Nat) (b:RC)
 | ghost (k:Nat) (b:RC)
 | cut (n:Nat) (b:RC)
 | split (ops:List RO)
 | splitD (ops:List RO)
 | bar (l1:List RO) (o:RO) (l2:List RO)
 | mreg (m:Nat) (es:List (Int×Int)) (a b:Nat) (x:A) (c d:Nat)
 | exit (id:Nat)
 | ret
def constAV:Value→Option AV
 | .int k n=>some (.int k n)
 | .bool b=>some (.bool b)
 | .string s=>some (.str s.data.toList)
 | .slice none 0 0=>some .nil
 | .func (.func f) first cap=>if first.size=0∧cap.size=0 then some (.fn f) else none
 | _=>none
def constAVs:List Value→Option (List AV)
 | []=>some []
 | v::vs=>match constAV v,constAVs vs with
   | some a,some as=>some (a::as)
   | _,_=>none
def idle:Value→Option AV
 | .pointer none=>some .junk
 | .nilFunc=>some .junk
 | _=>none
def compA:Operand→Option A
 | .tmp t=>some (.t t)
 | .const v=>((constAV v).or (idle v)).map .c
 | .func f=>some (.c (.fn f))
 | .global _=>none
def compAs:List Operand→Option (List A)
 | []=>some []
 | x::xs=>match compA x,compAs xs with
   | some a,some as=>some (a::as)
   | _,_=>none
mutual
def shapeOf (P:Program):Nat→TypeId→Option (List Nat)
 | 0,_=>none
 | d +1,t=>match P.underlying t with
   | some .bool=>some [1]
   | some (.int _)=>some [0]
   | some .string=>some [2]
   | some (.struct fs)=>if P.stoodInHeld t then none else shapeFields P d fs.toList 0
   | some (.array n e)=>match shapeOf P d e,P.info? e with
     | some s,some i=>if i.size=s.length then some (List.replicate n s).flatten else none
     | _,_=>none
   | _=>none
def shapeFields (P:Program):Nat→List Field→Nat→Option (List Nat)
 | _,[],_=>some []
 | 0,_ ::_,_=>none
 | d+1,f::fs,off=>
   if f.name= "_"∨f.offset≠off then none else
   match shapeOf P d f.type,P.info? f.type with
   | some s,some i=>if i.size=s.length then (shapeFields P d fs (off+s.length)).map (s ++ ·) else none
   | _,_=>none
end
def sizeP (P:Program)(t:TypeId):Option Nat:=(P.info? t).map (·.size)
def aggP (P:Program)(t:TypeId):Bool:=match P.underlying t with
 | some (.struct _) | some (.array _ _)=>true
 | _=>false
def zeroP (P:Program)(t:TypeId):Option (List AV):=match (P.info? t).bind (·.zero) with
 | some z=>constAVs z.cells.toList
 | none=>none
def compParts (P:Program)(fs:Array Field):List (Nat×Operand)→Option (List (Nat×Nat×A))
 | []=>some []
 | (i,x)::ps=>match fs[i]?,compA x,compParts P fs ps with
   | some f,some a,some r=>match sizeP P f.type with
     | some s=>some ((f.offset,s,a)::r)
     | none=>none
   | _,_,_=>none
def compPartsA (sz:Nat):List (Nat×Operand)→Option (List (Nat×Nat×A))
 | []=>some []
 | (i,x)::ps=>match compA x,compPartsA sz ps with
   | some a,some r=>some ((i * sz,sz,a)::r)
   | _,_=>none
def compPartsS:List (Nat×Operand)→Option (List (Nat×A))
 | []=>some []
 | (i,x)::ps=>match compA x,compPartsS ps with
   | some a,some r=>some ((i,a)::r)
   | _,_=>none
def isCmp:BinOp→Bool
 | .eql | .neq | .lss | .leq | .gtr | .geq=>true
 | _=>false
def isEq:BinOp→Bool
 | .eql | .neq=>true
 | _=>false
def isNeq:BinOp→Bool
 | .neq=>true
 | _=>false
def isArith:BinOp→Bool
 | .add | .sub | .mul | .quo | .rem | .and | .or | .xor | .andNot=>true
 | _=>false
def compO (o:Option Operand):Option (Option A):=match o with
 | none=>some none
 | some x=>(compA x).map some
def enterable (P:Program)(f:Nat):Bool:=match P.funcs[f]? with
 | some fn=>fn.body.isSome && !(fn.name == "runtime.NumGoroutine")
 | none=>false
def valFs (P:Program):List Nat:=(List.range P.funcs.size).filter (enterable P)
def compCall (P:Program)(dr:Bool)(c:Call):Option IOp:=
 match c.callee,compAs c.args.toList with
 | .value (.tmp t),some xs=>some (.callv (valFs P) (.t t) xs)
 | .value (.func f),some xs=>match P.funcs[f]? with
   | some fn=>if fn.body.isSome=true∧(fn.name == "runtime.NumGoroutine") =false then some (.call f xs) else none
   | none=>none
 | .builtin .len,some [x]=>match (c.argTypes[0]?).bind P.underlying with
   | some (.slice _)=>some (.len 0 x)
   | some .string=>some (.len 1 x)
   | _=>none
 | .builtin .min,some xs=>some (.minmax false xs)
 | .builtin .max,some xs=>some (.minmax true xs)
 | .builtin .append,some [x,y]=>match (c.argTypes[0]?).bind P.underlying,(c.argTypes[1]?).bind P.underlying with
   | some (.slice e),some (.slice _)=>match P.info? e with
     | some i=>match zeroP P e with
       | some z=>if z.length=i.size∧i.size≠0∧c.argTypes.size=2∧c.argTypes[0]? =c.argTypes[1]? then (match dr with | true=>some (.appD e i.bytes z x y) | false=>some (.append e i.bytes z x y)) else none
       | none=>none
     | none=>none
   | some (.slice e),some (.int _)=>match P.info? e with
     | some i=>match zeroP P e with
       | some z=>if (z.length=i.size∧i.size≠0∧c.argTypes.size=2)∧dr=false then some (.appZ e i.bytes z x y) else none
       | none=>none
     | none=>none
   | _,_=>none
 | .builtin .copy,some [x,y]=>match (c.argTypes[0]?).bind P.underlying with
   | some (.slice e)=>if c.argTypes.size=2 then (sizeP P e).map λs=> .copy s x y else none
   | _=>none
 | _,_=>none
def isNilC:Operand→Bool
 | .const (.slice none 0 0)=>true
 | _=>false
def compShift (left:Bool)(x:Operand):Operand→Option IOp
 | .const (.int _ (.ofNat n))=>(compA x).map (match left with | true=> .shl n | false=> .shr n)
 | _=>none
def keyN (P:Program)(kt:TypeId):Option Nat:=match P.underlying kt with
 | some (.int .u8)=>some 0
 | some (.array 2 e)=>match P.underlying e,shapeOf P 60 kt,sizeP P e with
   | some (.int .i64),some [0,0],some 1=>some 2
   | _,_,_=>none
 | _=>none
def mapN (P:Program)(t:TypeId):Option Nat:=match P.underlying t with
 | some (.map kt et)=>match (P.info? et).bind (·.zero) with
   | some (.bool false)=>keyN P kt
   | _=>none
 | _=>none
def isTrueC:Operand→Bool
 | .const (.bool true)=>true
 | _=>false
def compOp0 (P:Program)(dr own:Bool)(o:Oper):Option IOp:=
 match o.op with
 | .move x | .assign x=>(compA x).map .mov
 | .pick c a b=>match compA c,compA a,compA b with
   | some c,some a,some b=>some (.pick c a b)
   | _,_,_=>none
 | .alloc e=>match zeroP P e,sizeP P e with
   | some z,some n=>if z.length=n then some (.alloc z) else none
   | _,_=>none
 | .box e x=>match compA x,sizeP P e with
   | some a,some n=>some (.box n a)
   | _,_=>none
 | .build t ps=>match zeroP P t,P.underlying t with
   | some z,some (.struct fs)=>if fs.all (λf=>(P.info? f.type).isSome) then (compParts P fs ps.toList).map (.build z) else none
   | some z,some (.array _ e)=>match sizeP P e with
     | some s=>(compPartsA s ps.toList).map (.build z)
     | none=>none
   | _,_=>none
 | .buildSlice t n ps=>match P.underlying t with
   | some (.slice e)=>match sizeP P e,zeroP P e,compPartsS ps.toList with
     | some s,some z,some r=>if n * s≤16777216∧z.length=s∧s≠0 then (match own with | false=>some (.bslice n z r) | true=>some (.bsliceO e n z r)) else none
     | _,_,_=>none
   | _=>none
 | .load t x=>match compA x,sizeP P t with
   | some a,some n=>if (P.underlying t).isSome then some (.load n (aggP P t) a) else none
   | _,_=>none
 | .store t x v=>match compA x,compA v,sizeP P t with
   | some a,some b,some n=>some (.store n a b)
   | _,_,_=>none
 | .nilCheck x=>(compA x).map .nilchk
 | .binOp .shl t x y _=>match P.underlying t with
   | some (.int _)=>compShift true x y
   | _=>none
 | .binOp .shr t x y _=>match P.underlying t with
   | some (.int _)=>compShift false x y
   | _=>none
 | .binOp op t x y _=>match compA x,compA y with
   | some a,some b=>match P.underlying t with
     | some (.slice _)=>if isEq op && isNilC y then some (.eqnil (isNeq op) a) else none
     | some (.int _)=>if isCmp op then some (.cmp op 0 a b) else if isArith op then some (.arith op a b) else none
     | some .bool=>if isEq op then some (.cmp op 1 a b) else none
     | some .string=>if isEq op then some (.cmp op 2 a b) else none
     | some (.struct _)=>if isEq op && !P.eqGuardType P.depth t then (shapeOf P 60 t).map λs=> .eqa (isNeq op) s a b else none
     | _=>none
   | _,_=>none
 | .unOp .not _ x=>(compA x).map .not
 | .unOp .neg _ x=>(compA x).map .neg
 | .convert s d x=>match compA x,P.underlying s,P.underlying d with
   | some a,some (.int _),some (.int k)=>some (.conv k a)
   | some a,some (.slice e),some .string=>match P.underlying e with
     | some (.int .u8)=>some (.b2s a)
     | _=>none
   | some a,some .string,some (.slice e)=>match P.underlying e with
     | some (.int .u8)=>some (.s2b a)
     | _=>none
   | some a,some (.slice _),some (.slice e)=>match P.underlying e with
     | some (.int .u8)=>if s == d then some (.mkstr a) else none
     | _=>none
   | _,_,_=>none
 | .makeSlice t l c=>match P.underlying t with
   | some (.slice e)=>match P.info? e,zeroP P e,compA l,compA c with
     | some i,some z,some l,some c=>if z.length=i.size∧i.size≠0 then (match own with | false=>some (.mkF i.bytes z l c) | true=>some (.mkslice e i.bytes z l c)) else none
     | _,_,_,_=>none
   | _=>none
 | .slice t x l h none=>match P.underlying t with
   | some (.slice e)=>match sizeP P e,compA x,compO l,compO h with
     | some s,some a,some l,some h=>some (.slice s a l h)
     | _,_,_,_=>none
   | _=>none
 | .fieldAddr t x f=>match P.underlying t,compA x with
   | some (.struct fs),some a=>match fs[f]? with
     | some fd=>match sizeP P fd.type with
       | some s=>if s≠0 then some (.faddr fd.offset a) else none
       | none=>none
     | none=>none
   | _,_=>none
 | .field t x f=>match P.underlying t,compA x with
   | some (.struct fs),some a=>match fs[f]? with
     | some fd=>if (P.underlying fd.type).isSome then (sizeP P fd.type).map λs=> .fld fd.offset s (aggP P fd.type) a else none
     | none=>none
   | _,_=>none
 | .indexAddr t x i=>match P.underlying t,compA x,compA i with
   | some (.slice e),some a,some b=>match sizeP P e,zeroP P e with
     | some s,some z=>if z.length=s then some (.iaddrS z a b) else none
     | _,_=>none
   | some (.array n e),some a,some b=>(sizeP P e).map λs=> .iaddrA n s a b
   | _,_,_=>none
 | .index t x i=>match P.underlying t,compA x,compA i with
   | some .string,some a,some b=>some (.idxS a b)
   | some (.array n e),some a,some b=>if (P.underlying e).isSome then (sizeP P e).map λs=> .idxV n s (aggP P e) a b else none
   | _,_,_=>none
 | .extract x i=>(compA x).map (.extract i)
 | .makeMap t none=>(mapN P t).map .mkmap
 | .lookup t x i false=>match mapN P t,compA x,compA i with
   | some n,some a,some b=>some (.mlook n a b)
   | _,_,_=>none
 | .mapUpdate t x i v=>match mapN P t,compA x,compA i,isTrueC v with
   | some n,some a,some b,true=>some (.mput n a b)
   | _,_,_,_=>none
 | .makeFunc (.func f) fi ca=>match fi.toList,ca.toList with
   | [],[x]=>(compA x).map (.mkclo f)
   | _,_=>none
 | .call c=>compCall P dr c
 | _=>none
def zeroJs:List Value→Option (List AV)
 | []=>some []
 | v ::vs=>match (constAV v).or (match v with
     | .pointer none=>some .junk
     | _=>none),zeroJs vs with
   | some a,some as=>some (a::as)
   | _,_=>none
def zeroJ (P:Program)(t:TypeId):Option (List AV):=match (P.info? t).bind (·.zero) with
 | some z=>zeroJs z.cells.toList
 | none=>none
def isNilP:Operand→Bool
 | .const (.pointer none)=>true
 | _=>false
def optA (x:Option A):List A:=match x with
 | some a=>[a]
 | none=>[]
def compPV (P:Program)(o:Oper):Option IOp:=match o.op with
 | .binOp op t x y _=>match op,P.underlying t,compA x,compA y with
   | .shl,some (.int _),some a,some b=>some (.pv (.shv true) [a,b])
   | .shr,some (.int _),some a,some b=>some (.pv (.shv false) [a,b])
   | .add,some .string,some a,some b=>some (.pv .sadd [a,b])
   | .eql,some (.pointer _),some a,some _=>if isNilP y then some (.pv (.nilp false) [a]) else none
   | .neq,some (.pointer _),some a,some _=>if isNilP y then some (.pv (.nilp true) [a]) else none
   | _,_,_,_=>none
 | .slice t x l h none=>match P.underlying t,compA x,compO l,compO h with
   | some .string,some a,some l,some h=>some (.pv (.ssl l.isSome h.isSome) (a::(optA l ++ optA h)))
   | _,_,_,_=>none
 | .indexAddr t (.global 0) i=>match P.underlying t,compA i with
   | some (.array 6 e),some a=>match P.underlying e,sizeP P e with
     | some (.int .u8),some 1=>some (.pv .glob [a])
     | _,_=>none
   | _,_=>none
 | .sliceToArrayPointer t x=>match P.underlying t,compA x with
   | some (.array n _),some a=>some (.pv (.toArr n) [a])
   | _,_=>none
 | .build t ps=>match zeroJ P t,P.underlying t with
   | some z,some (.struct fs)=>if fs.all (λf=>(P.info? f.type).isSome) then (compParts P fs ps.toList).map (.build z) else none
   | _,_=>none
 | .makeMap t none=>match P.underlying t with
   | some (.map _ _)=>some (.mkmap 9)
   | _=>none
 | .lookup _ _ _ _ | .mapUpdate _ _ _ _ | .makeInterface _ _ | .panic _=>some (.pv .bad [])
 | .call c=>match c.callee with
   | .builtin .clear=>some (.pv .bad [])
   | _=>none
 | _=>none
def compOp (P:Program)(dr own:Bool)(o:Oper):Option IOp:=match compOp0 P dr own o with
 | some i=>some i
 | none=>compPV P o
def compGuard (ops:Array Oper)(o:Oper):Option (Option (Nat×Bool)):=match o.guard with
 | none=>some none
 | some (j,b)=>match (ops[j]?).bind (·.dst) with
   | some s=>some (some (s,b))
   | none=>none
def takesT (d:Nat)(o:Oper):Bool:=
 (match o.op with
  | .call c=>(match c.callee with
    | .builtin .len=>false
    | _=>true)
  | .build _ _ | .buildSlice _ _ _ | .store _ _ _ | .box _ _=>true
  | _=>false) && o.op.operands.toList.any fun | .tmp t=>t == d | _=>false
def takesF (d:Nat)(o:Oper):Bool:=
 (match o.op with
  | .call c=>(match c.callee with
    | .builtin _=>false
    | _=>true)
  | .build _ _ | .buildSlice _ _ _=>true
  | _=>false) && o.op.operands.toList.any fun | .tmp t=>t == d | _=>false
def ownLit0 (dr:Bool)(ops:Array Oper)(o:Oper):Bool:=match dr,o.dst with
 | false,some d=>!ops.toList.any (takesF d)
 | false,none=>true
 | true,some d=>!ops.toList.any (takesT d)
 | true,none=>false
def ownLit (dr:Bool)(ops:Array Oper)(o:Oper):Bool:=match o.op,o.dst with
 | .makeSlice _ _ _,some _=>true
 | .makeSlice _ _ _,none=>true
 | _,_=>ownLit0 dr ops o
def compOps (P:Program)(dr:Bool)(ops:Array Oper):List Oper→Option (List RO)
 | []=>some []
 | o::rest=>match compOp P dr (ownLit dr ops o) o,compGuard ops o,compOps P dr ops rest with
   | some i,some g,some r=>some (⟨o.dst,i,g,(o.after.toList.filter λe=>Region.binds .any e).map (·.on)⟩::r)
   | _,_,_=>none
def needD:IOp→Bool
 | .alloc _ | .box _ _ | .call _ _ | .append _ _ _ _ _ | .appD _ _ _ _ _ | .appZ _ _ _ _ _ | .mkslice _ _ _ _ _ | .bsliceO _ _ _ _=>true
 | .mkmap _ | .mkclo _ _ | .slice _ _ _ _=>true
 | _=>false
def okReg (N:Nat):List Nat→List RO→Bool
 | _,[]=>true
 | W,o::rest=>
   (match o.guard with
    | none=>true
    | some (g,_)=>W.contains g) &&
   (match o.dst with
    | none=>(match o.op,o.guard with | .store _ _ _,none=>true | .mput _ _ _,none=>true | .pv .bad _,none=>true | _,_=>false) && okReg N W rest
    | some d=>!W.contains d && (!needD o.op || decide (d+1≠0)) && decide (d < N) && okReg N (d::W) rest)
def slotsA:A→List Nat
 | .t n=>[n]
 | .c _=>[]
def slotsO:Option A→List Nat
 | none=>[]
 | some x=>slotsA x
def slotsL:List A→List Nat
 | []=>[]
 | x::xs=>slotsA x ++ slotsL xs
def slotsF:List (Nat×Nat×A)→List Nat
 | []=>[]
 | (_,_,x)::ps=>slotsA x ++ slotsF ps
def slotsG:List (Nat×A)→List Nat
 | []=>[]
 | (_,x)::ps=>slotsA x ++ slotsG ps
def IOp.reads:IOp→List Nat
 | .mov x | .not x | .neg x | .conv _ x | .b2s x | .s2b x | .mkstr x | .eqnil _ x | .shl _ x | .shr _ x | .len _ x | .faddr _ x | .fld _ _ _ x | .load _ _ x | .box _ x | .extract _ x | .nilchk x=>slotsA x
 | .arith _ x y | .cmp _ _ x y | .eqa _ _ x y | .iaddrS _ x y | .iaddrA _ _ x y | .store _ x y | .append _ _ _ x y | .appD _ _ _ x y | .appZ _ _ _ x y | .mkslice _ _ _ x y | .mkF _ _ x y | .copy _ x y | .idxS x y | .idxV _ _ _ x y=>slotsA x ++ slotsA y
 | .pv _ xs=>slotsL xs
 | .pick c x y=>slotsA c ++ (slotsA x ++ slotsA y)
 | .minmax _ xs | .call _ xs=>slotsL xs
 | .callv _ x xs=>slotsA x ++ slotsL xs
 | .mkmap _=>[]
 | .mlook _ x i | .mput _ x i=>slotsA x ++ slotsA i
 | .mkclo _ x=>slotsA x
 | .slice _ x l h=>slotsA x ++ (slotsO l ++ slotsO h)
 | .alloc _=>[]
 | .build _ ps=>slotsF ps
 | .bslice _ _ ps=>slotsG ps
 | .bsliceO _ _ _ ps=>slotsG ps
def RO.reads (o:RO):List Nat:=(match o.guard with
 | some (g,_)=>[g]
 | none=>[]) ++ o.op.reads
def addN:List Nat→List Nat→List Nat
 | [],l=>l
 | x::xs,l=>addN xs (if l.contains x then l else x::l)
def unionN (acc:List (List Nat)):List Nat→List Nat→List Nat
 | [],l=>l
 | e::es,l=>unionN acc es (addN (acc.getD e []) l)
def closeGo:List RO→List (List Nat)→List RO
 | [],_=>[]
 | o::rest,acc=>{o with after:=unionN acc o.after (addN o.after [])}::closeGo rest (acc ++ [unionN acc o.after (addN o.after [])])
def disjN (l l':List Nat):Bool:=l.all λx=>!l'.contains x
def apartO (x y:RO):Bool:=
 (match x.dst with
  | some d=>!y.reads.contains d
  | none=>true) &&
 (match y.dst with
  | some d=>!x.reads.contains d
  | none=>true)
def okDrawAt (raw cl:List RO)(n:Nat)(o:RO):Bool:=
 (o.after.all λe=>decide (e < n)) && (((raw[n]?).map (·.after)).any λas=>as.all λe=>decide (e < n)) &&
 (match o.guard with
  | some (g,_)=>o.after.any λe=>((cl[e]?).bind (·.dst)) == some g
  | none=>true) &&
 (o.after.all λe=>((raw[n]?).map (·.after)).any λas=>as.contains e || as.any λj=>((cl[j]?).map (·.after)).any (·.contains e)) &&
 ((List.range n).all λm=>o.after.contains m || (match cl[m]? with
   | some x=>apartO x o
   | none=>false))
def okDraw (raw cl:List RO):Bool:=(List.range cl.length).all λn=>match cl[n]? with
 | some o=>okDrawAt raw cl n o
 | none=>false
def drawn (l:List RO):Option RC:=match okDraw l (closeGo l []) with
 | true=>some (.region (closeGo l []) true)
 | false=>none
def lookI (n:Int):List (Int×Int)→Int
 | []=>0
 | (k,v)::r=>if n=k then v else lookI n r
def mapIns (m:Nat)(T:TypeId):List Oper→List (Int×Int)×List Oper
 | []=>([],[])
 | o ::rest=>match o.dst,o.op,o.guard with
   | none,.insert T' (.tmp m') (.const (.int .u8 k)) (.const (.int .i64 v)),none=>
     if T'=T∧m'=m then ((k,v)::(mapIns m T rest).1,(mapIns m T rest).2) else ([],o::rest)
   | _,_,_=>([],o::rest)
def compM2 (P:Program)(N:Nat)(m:Nat)(T:TypeId)(es:List (Int×Int))(o1 o2 o3 o4:Oper):Option RC:=
 match o1.dst,o1.op,o1.guard with
 | some a, .move (.tmp m'),none=>match o2.dst,o2.op,o2.guard with
   | some b,.move x,none=>match o3.dst,o3.op,o3.guard with
     | some c,.lookup T' (.tmp a') (.tmp b') false,none=>match o4.dst,o4.op,o4.guard with
       | some d,.assign (.tmp c'),none=>match compA x,P.underlying T with
         | some x,some (.map kt et)=>match P.underlying kt,(P.info? et).bind (·.zero) with
           | some (.int .u8),some (.int .i64 0)=>if m'=m∧a'=a∧b'=b∧c'=c∧T'=T∧(es.map (·.1)).Nodup∧m < N∧a < N∧b < N∧c < N∧d < N∧a≠b then some (.mreg m es a b x c d) else none
           | _,_=>none
         | _,_=>none
       | _,_,_=>none
     | _,_,_=>none
   | _,_,_=>none
 | _,_,_=>none
def compM (P:Program)(N:Nat):List Oper→Option RC
 | []=>none
 | o0::rest=>match o0.dst,o0.op,o0.guard with
   | some m,.makeMap T none,none=>match (mapIns m T rest).2 with
     | [o1,o2,o3,o4]=>compM2 P N m T (mapIns m T rest).1 o1 o2 o3 o4
     | _=>none
   | _,_,_=>none
def comp (P:Program)(N:Nat):Code→Option RC
 | .skip=>some .skip
 | .region _ ops d=>match compOps P d ops ops.toList with
   | some l=>if okReg N [] l then (match d with | true=>drawn l | false=>some (.region l false)) else none
   | none=>if d then none else compM P N ops.toList
 | .seq a b=>match comp P N a,comp P N b with
   | some a,some b=>some (.seq a b)
   | _,_=>none
 | .cond c t e=>match compA c,comp P N t,comp P N e with
   | some c,some t,some e=>some (.cond c t e)
   | _,_,_=>none
 | .block id b=>match comp P N b with
   | some b=>some (.block id b)
   | none=>none
 | .loop b=>match comp P N b with
   | some b=>some (.loop 0 b)
   | none=>none
 | .exit id=>some (.exit id)
 | .ret=>some .ret
 | _=>none
def erase:RC→RC
 | .skip=> .skip
 | .region l d=> .region l d
 | .seq a b=> .seq (erase a) (erase b)
 | .cond c t e=> .cond c (erase t) (erase e)
 | .block id b=> .block id (erase b)
 | .loop _ b=> .loop 0 (erase b)
 | .ghost _ b=>erase b
 | .cut _ b=>erase b
 | .split l=> .region l false
 | .splitD l=> .region l true
 | .bar l1 o l2=> .region (l1 ++ o::l2) true
 | .mreg m es a b x c d=> .mreg m es a b x c d
 | .exit id=> .exit id
 | .ret=> .ret
inductive RV where
 | t (n:Nat)
 | c (p n:Nat) (ag:Bool)
def compRes (P:Program):List ResultVar→Option (List RV)
 | []=>some []
 | .tmp t::rs=>(compRes P rs).map (.t t:: ·)
 | .cell p t::rs=>match sizeP P t,compRes P rs with
   | some n,some r=>if (P.underlying t).isSome then some (.c p n (aggP P t)::r) else none
   | _,_=>none
end Go.Ev
namespace Go.Ev
open Go Go.RowKit
def gv (p:List (Nat×Bool)):AV→Option AV
 | .gd q v=>match q.all (λx=>p.contains x) with
   | true=>some v
   | false=>none
 | .int k n=>some (.int k n)
 | .bool b=>some (.bool b)
 | .str s=>some (.str s)
 | .agg cs=>some (.agg cs)
 | .tup vs=>some (.tup vs)
 | .lst z es=>some (.lst z es)
 | .ep z es i o=>some (.ep z es i o)
 | .ptr r o=>some (.ptr r o)
 | .ap r o n i=>some (.ap r o n i)
 | .vw r z l h=>some (.vw r z l h)
 | .bp r z i o=>some (.bp r z i o)
 | .fr i t z es=>some (.fr i t z es)
 | .sv r z l h=>some (.sv r z l h)
 | .fp i cs=>some (.fp i cs)
 | .nb e=>some (.nb e)
 | .fn f=>some (.fn f)
 | .nil=>some .nil
 | .junk=>some .junk
def ungd:AV→AV
 | .gd _ _=> .junk
 | .int k n=> .int k n
 | .bool b=> .bool b
 | .str s=> .str s
 | .agg cs=> .agg cs
 | .tup vs=> .tup vs
 | .lst z es=> .lst z es
 | .ep z es i o=> .ep z es i o
 | .ptr r o=> .ptr r o
 | .ap r o n i=> .ap r o n i
 | .vw r z l h=> .vw r z l h
 | .bp r z i o=> .bp r z i o
 | .fr i t z es=> .fr i t z es
 | .sv r z l h=> .sv r z l h
 | .fp i cs=> .fp i cs
 | .nb e=> .nb e
 | .fn f=> .fn f
 | .nil=> .nil
 | .junk=> .junk
def AV.atom:AV→Bool
 | .agg _ | .tup _ | .gd _ _=>false
 | _=>true
def AV.lev1:AV→Bool
 | .tup _ | .gd _ _=>false
 | _=>true
structure St where
 s:Nat→AV
 m:Nat→Option Blk
def upd (s:Nat→AV)(d:Nat)(v:AV):Nat→AV:=λk=>if k=d then v else s k
def updM (m:Nat→Option Blk)(r:Nat)(b:Option Blk):Nat→Option Blk:=λk=>if k=r then b else m k
def kill0 (r:Nat):AV→AV
 | .ptr r' o=>if r'=r then .junk else .ptr r' o
 | .ap r' o n i=>if r'=r then .junk else .ap r' o n i
 | .vw r' z l h=>if r'=r then .junk else .vw r' z l h
 | .sv r' z l h=>if r'=r then .junk else .sv r' z l h
 | .bp r' z i o=>if r'=r then .junk else .bp r' z i o
 | .fr i t z es=> .fr i t z es
 | .fp i cs=> .fp i cs
 | .nb e=> .nb e
 | .int k n=> .int k n
 | .bool b=> .bool b
 | .str s=> .str s
 | .agg cs=> .agg cs
 | .tup vs=> .tup vs
 | .lst z es=> .lst z es
 | .ep z es i o=> .ep z es i o
 | .fn f=> .fn f
 | .nil=> .nil
 | .gd c v=> .gd c v
 | .junk=> .junk
def kill1 (r:Nat):AV→AV
 | .agg cs=> .agg (cs.map (kill0 r))
 | x=>kill0 r x
def kill2 (r:Nat):AV→AV
 | .tup vs=> .tup (vs.map (kill1 r))
 | x=>kill1 r x
def kill3 (r:Nat):AV→AV
 | .gd c v=> .gd c (kill2 r v)
 | x=>kill2 r x
def killB (r:Nat):Blk→Blk
 | .cells cs=> .cells (cs.map (kill0 r))
 | .buf t z es=> .buf t z es
 | .qb t z es=> .qb t z es
 | .ms n ks=> .ms n ks
 | .clo f z es i o=> .clo f z es i o
 | .dead=> .dead
def killS (r:Nat)(s:Nat→AV):Nat→AV:=λk=>kill3 r (s k)
def killM (r:Nat)(m:Nat→Option Blk):Nat→Option Blk:=λk=>match m k with
 | none=>none
 | some b=>some (killB r b)
def ungdS (s:Nat→AV):Nat→AV:=λk=>ungd (s k)
structure Res where
 pre:List Prop
 post:List Prop
 val:AV
 ups:List (Nat×Blk)
 new:Option (Nat×Blk)
 tch:List Nat
def Res.q (v:AV):Option Res:=some ⟨[],[],v,[],none,[]⟩
def Res.qp (p:Prop)(v:AV):Option Res:=some ⟨[p],[],v,[],none,[]⟩
def ar (σ:St):A→AV
 | .t n=>σ.s n
 | .c v=>v
def av (σ:St)(p:List (Nat×Bool))(x:A):Option AV:=gv p (ar σ x)
def avs (σ:St)(p:List (Nat×Bool)):List A→Option (List AV)
 | []=>some []
 | x::xs=>match av σ p x,avs σ p xs with
   | some v,some vs=>some (v::vs)
   | _,_=>none
def bitsI (op:BinOp)(k:IntKind)(x y:Int):Int:=
 k.wrap (match op with
  | .and=>(BitVec.ofInt k.bits x &&& BitVec.ofInt k.bits y)
  | .or=>(BitVec.ofInt k.bits x ||| BitVec.ofInt k.bits y)
  | .xor=>(BitVec.ofInt k.bits x ^^^ BitVec.ofInt k.bits y)
  | _=>(BitVec.ofInt k.bits x &&& ~~~ BitVec.ofInt k.bits y)).toNat
def arithR (op:BinOp):AV→AV→Option Res
 | .int k a,.int k' b=>if k=k' then match op with
   | .add=>Res.q (.int k (k.wrap (a+b)))
   | .sub=>Res.q (.int k (k.wrap (a - b)))
   | .mul=>Res.q (.int k (k.wrap (a * b)))
   | .quo=>Res.qp (b≠0) (.int k (k.wrap (a.tdiv b)))
   | .rem=>Res.qp (b≠0) (.int k (a.tmod b))
   | .and=>Res.q (.int k (bitsI .and k a b))
   | .or=>Res.q (.int k (bitsI .or k a b))
   | .xor=>Res.q (.int k (bitsI .xor k a b))
   | .andNot=>Res.q (.int k (bitsI .andNot k a b))
   | _=>none
   else none
 | _,_=>none
def cmpR (op:BinOp):Nat→AV→AV→Option AV
 | 0,.int k a,.int k' b=>if k=k' then match op with
   | .eql=>some (.bool (decide (a=b)))
   | .neq=>some (.bool (!decide (a=b)))
   | .lss=>some (.bool (decide (a < b)))
   | .leq=>some (.bool (decide (a≤b)))
   | .gtr=>some (.bool (decide (b < a)))
   | .geq=>some (.bool (decide (b≤a)))
   | _=>none
   else none
 | 1,.bool a,.bool b=>match op with
   | .eql=>some (.bool (a == b))
   | .neq=>some (.bool (!(a == b)))
   | _=>none
 | 2,.str a,.str b=>match op with
   | .eql=>some (.bool (decide (a=b)))
   | .neq=>some (.bool (!decide (a=b)))
   | _=>none
 | _,_,_=>none
def eqCells:List Nat→List AV→List AV→Option Bool
 | [],[],[]=>some true
 | 0::sh,.int k a::xs,.int k' b::ys=>if k=k' then (eqCells sh xs ys).map (decide (a=b) && ·) else none
 | 1::sh,.bool a::xs,.bool b::ys=>(eqCells sh xs ys).map ((a == b) && ·)
 | 2::sh,.str a::xs,.str b::ys=>(eqCells sh xs ys).map (decide (a=b) && ·)
 | _,_,_=>none
def eqaR (neg:Bool)(sh:List Nat):AV→AV→Option AV
 | .agg xs,.agg ys=>match eqCells sh xs ys with
   | some b=>some (.bool (match neg with | true=>!b | false=>b))
   | none=>none
 | _,_=>none
def slotOf:A→Option Nat
 | .t n=>some n
 | .c _=>none
def pickV:AV→AV→AV→Option Res
 | .bool c,.bool a,.bool b=>Res.q (.bool (bif c then a else b))
 | _,_,_=>none
def minmaxR (mx:Bool):AV→AV→Option AV
 | .int k x,.int k' y=>if k=k' then some (.int k (match mx with | true=>if y > x then y else x | false=>if y < x then y else x)) else none
 | _,_=>none
def minmaxL (mx:Bool):AV→List AV→Option AV
 | v,[]=>some v
 | v,x::xs=>match minmaxR mx v x with
   | some v'=>minmaxL mx v' xs
   | none=>none
def cellsOfAV (n:Nat):AV→Option (List AV)
 | .agg cs=>if cs.length=n then some cs else none
 | .tup _=>none
 | .gd _ _=>none
 | .junk=>none
 | v=>if n=1 then some [v] else none
def valOf (ag:Bool)(n:Nat)(cs:List AV)(off:Nat):Option AV:=
 match ag with
 | true=>if off+n≤cs.length then some (.agg ((cs.drop off).take n)) else none
 | false=>match n with
   | 1=>cs[off]?
   | _=>none
def setCells:List AV→Nat→List AV→List AV
 | cs,_,[]=>cs
 | cs,off,v::vs=>setCells (cs.set off v) (off+1) vs
def getE (z:List AV)(es:List (List AV))(i:Nat):List AV:=es.getD i z
def fillA (σ:St)(p:List (Nat×Bool)):List AV→List (Nat×Nat×A)→Option (List AV)
 | cs,[]=>some cs
 | cs,(off,n,x)::ps=>match av σ p x with
   | some v=>match cellsOfAV n v with
     | some vs=>if off+n≤cs.length then fillA σ p (setCells cs off vs) ps else none
     | none=>none
   | none=>none
def AV.clean0:AV→Bool
 | .int _ _ | .bool _ | .str _ | .lst _ _ | .fn _ | .nil | .ep _ _ _ _=>true
 | _=>false
def AV.clean1:AV→Bool
 | .agg cs=>cs.all AV.clean0
 | x=>x.clean0
def AV.clean2:AV→Bool
 | .tup vs=>vs.all AV.clean1
 | x=>x.clean1
def fillS (σ:St)(p:List (Nat×Bool))(n:Nat):List (List AV)→List (Nat×A)→Option (List (List AV))
 | es,[]=>some es
 | es,(i,x)::ps=>match av σ p x with
   | some v=>match cellsOfAV n v with
     | some vs=>if i < es.length∧vs.all AV.clean0=true then fillS σ p n (es.set i vs) ps else none
     | none=>none
   | none=>none
inductive Ctr where
 | mk (st:Bool) (fn:List AV→List AV→Option (Prop×AV×List AV))
 | ext (st:Bool) (ι:Type) (fn:List AV→List AV→Option (Prop×(ι→Prop×AV×List AV)))
 | own (T:Nat) (z:List AV) (fn:List AV→Option (Prop×List (List AV)))
 | gr (ι:Type) (ho:List Nat) (fz:Bool) (fn:List (Nat×Blk)→List AV→Option (Prop×(ι→Prop×AV×List (Nat×Blk))))
def AV.flat0:AV→Bool
 | .int _ _ | .bool _ | .str _ | .fn _ | .nil=>true
 | _=>false
def AV.flat1:AV→Bool
 | .agg cs=>cs.all AV.flat0
 | x=>x.flat0
def AV.flat2:AV→Bool
 | .tup vs=>vs.all AV.flat1
 | x=>x.flat1
def lendB (r:Nat):Option Blk→Option (AV×List Nat)
 | some (.buf _ z es)=>some (.lst z es,[r])
 | _=>none
def lendP (r sz lo hi:Nat):Option Blk→Option (AV×List Nat)
 | some (.buf _ z es)=>match z.length == sz with
   | true=>some (.lst z ((es.drop lo).take (hi - lo)),[r])
   | false=>none
 | _=>none
def lendA (m:Nat→Option Blk):AV→Option (AV×List Nat)
 | .vw r _ _ _=>lendB r (m r)
 | .sv r sz lo hi=>lendP r sz lo hi (m r)
 | .int k n=>some (.int k n,[])
 | .bool b=>some (.bool b,[])
 | .str s=>some (.str s,[])
 | .lst z es=>some (.lst z es,[])
 | .fn f=>some (.fn f,[])
 | .nil=>some (.nil,[])
 | .ep z es i o=>some (.ep z es i o,[])
 | _=>none
def consL:Option (AV×List Nat)→Option (List AV×List Nat)→Option (List AV×List Nat)
 | some (v,b),some (vs,bs)=>some (v::vs,b ++ bs)
 | _,_=>none
def lendC (m:Nat→Option Blk):List AV→Option (List AV×List Nat)
 | []=>some ([],[])
 | x::xs=>consL (lendA m x) (lendC m xs)
def aggL:Option (List AV×List Nat)→Option (AV×List Nat)
 | some (cs,b)=>some (.agg cs,b)
 | none=>none
def lend1 (m:Nat→Option Blk):AV→Option (AV×List Nat)
 | .agg cs=>aggL (lendC m cs)
 | x=>lendA m x
def lends (m:Nat→Option Blk):List AV→Option (List AV×List Nat)
 | []=>some ([],[])
 | x::xs=>consL (lend1 m x) (lends m xs)
def lendO0 (m:Nat→Option Blk):AV→Option (AV×List Nat)
 | .vw r _ _ _=>lendB r (m r)
 | .int k n=>some (.int k n,[])
 | .bool b=>some (.bool b,[])
 | .str s=>some (.str s,[])
 | .lst z es=>some (.lst z es,[])
 | .fn f=>some (.fn f,[])
 | .nil=>some (.nil,[])
 | .ep z es i o=>some (.ep z es i o,[])
 | _=>some (.junk,[])
def lendOL (m:Nat→Option Blk):List AV→Option (List AV×List Nat)
 | []=>some ([],[])
 | x::xs=>consL (lendO0 m x) (lendOL m xs)
def lendOE (r o:Nat):Option (List AV×List Nat)→Option (AV×List Nat)
 | some (cs,bs)=>some (.ep cs [cs] 0 o,r::bs)
 | none=>none
def lendOb (m:Nat→Option Blk)(r o:Nat):Option Blk→Option (AV×List Nat)
 | some (.cells cs)=>lendOE r o (lendOL m cs)
 | _=>none
def lendX (m:Nat→Option Blk):AV→Option (AV×List Nat)
 | .ptr r o=>lendOb m r o (m r)
 | x=>lend1 m x
def lendsX (m:Nat→Option Blk):List AV→Option (List AV×List Nat)
 | []=>some ([],[])
 | x::xs=>consL (lendX m x) (lendsX m xs)
def backOK (bs:List Nat)(f:Bool):Bool:=match bs with
 | []=>true
 | _ ::_=>f
def callP (t:List Nat)(bs:List Nat):Option (Prop×AV×List AV)→Option Res
 | some (q,r,_)=>match r.clean2 && backOK bs r.flat2 with
  | true=>some ⟨[q],[],r,[],none,t ++ bs⟩
  | false=>none
 | none=>none
def callS (r:Nat)(bs:List Nat):Option (Prop×AV×List AV)→Option Res
 | some (q,v,cs')=>match v.clean2 && (cs'.all AV.clean0 && backOK bs (v.flat2 && cs'.all AV.flat0)) with
  | true=>some ⟨[q],[],v,[(r,.cells cs')],none,r::bs⟩
  | false=>none
 | none=>none
def callN (fn:List AV→List AV→Option (Prop×AV×List AV)):Option (List AV×List Nat)→Option Res
 | some (vs,bs)=>callP [] bs (fn [] vs)
 | none=>none
def callB (fn:List AV→List AV→Option (Prop×AV×List AV))(r:Nat)(cs:List AV):Option (List AV×List Nat)→Option Res
 | some (vs,bs)=>match cs.all AV.clean0 with
   | true=>callS r bs (fn cs vs)
   | false=>none
 | none=>none
def callC (m:Nat→Option Blk)(fn:List AV→List AV→Option (Prop×AV×List AV))(r:Nat)(vs:List AV):Option Blk→Option Res
 | some (.cells cs)=>callB fn r cs (lends m vs)
 | _=>none
def callR (m:Nat→Option Blk)(C:Option Ctr)(vs:List AV):Option Res:=
 match C with
 | some (.mk false fn)=>callN fn (lendsX m vs)
 | some (.mk true fn)=>match vs with
   | .ptr r 0::vs=>callC m fn r vs (m r)
   | _=>none
 | _=>none
def FlatE (es:List (List AV)):Prop:=∀ e∈es,e.all AV.flat0=true
def backF (bs:List Nat)(es:List (List AV)):Prop:=match bs with
 | []=>True
 | _ ::_=>FlatE es
def ownW (d T:Nat)(z:List AV)(fn:List AV→Option (Prop×List (List AV))):Option (List AV×List Nat)→Option Res
 | some (vs,bs)=>match fn vs with
   | some (q,es)=>some ⟨[q,backF bs es],[],.vw (64 * d+64) 0 0 0,[],some (64 * d+64,.buf T z es),bs⟩
   | none=>none
 | none=>none
def callE (d:Nat)(m:Nat→Option Blk)(C:Option Ctr)(vs:List AV):Option Res:=match C with
 | some (.own T z fn)=>ownW d T z fn (lends m vs)
 | some (.mk st fn)=>callR m (some (.mk st fn)) vs
 | _=>none
def loadR (m:Nat→Option Blk)(n:Nat)(ag:Bool):AV→Option Res
 | .ptr r o=>match m r with
   | some (.cells cs)=>match valOf ag n cs o with
     | some v=>some ⟨[],[],v,[],none,[r]⟩
     | none=>none
   | _=>none
 | .ep z es i o=>match valOf ag n (getE z es i) o with
   | some v=>Res.q v
   | none=>none
 | .bp r sz i o=>match m r with
   | some (.buf _ z es)=>match z.length == sz,valOf ag n (getE z es i) o with
     | true,some v=>some ⟨[i < es.length],[],v,[],none,[r]⟩
     | _,_=>none
   | some (.qb _ z es)=>match z.length == sz,valOf ag n (getE z es i) o with
     | true,some v=>some ⟨[i < es.length],[],v,[],none,[r]⟩
     | _,_=>none
   | _=>none
 | _=>none
def storeR (m:Nat→Option Blk)(n:Nat):AV→AV→Option Res
 | .ptr r o,v=>match cellsOfAV n v,m r with
   | some vs,some (.cells cs)=>if o+n≤cs.length then some ⟨[],[],.junk,[(r,.cells (setCells cs o vs))],none,[r]⟩ else none
   | _,_=>none
 | .bp r sz i o,v=>match cellsOfAV n v,m r with
   | some vs,some (.buf t z es)=>match z.length == sz && (vs.all AV.clean0 && decide (o+n≤z.length)) with
     | true=>some ⟨[i < es.length],[],.junk,[(r,.buf t z (es.set i (setCells (getE z es i) o vs)))],none,[r]⟩
     | false=>none
   | _,_=>none
 | _,_=>none
def lenR:Nat→AV→Option Res
 | 0,.lst _ es=>some ⟨[],[es.length≤9223372036854775807],.int .i64 es.length,[],none,[]⟩
 | 0,.nil=>Res.q (.int .i64 0)
 | 0,.sv _ _ lo hi=>some ⟨[],[hi - lo≤9223372036854775807],.int .i64 ((hi - lo:Nat):Int),[],none,[]⟩
 | 1,.str s=>Res.q (.int .i64 s.length)
 | _,_=>none
def iaddrSR (zero:List AV):AV→AV→Option Res
 | .lst z es,.int _ n=>if z.length=zero.length then some ⟨[0≤n∧n < es.length],[es.length≤9223372036854775807],.ep zero es n.toNat 0,[],none,[]⟩ else none
 | _,_=>none
def iasV (zero:List AV)(r:Nat)(n:Int):Option Blk→Option Res
 | some (.qb _ z es)=>match z.length == zero.length with
   | true=>some ⟨[0≤n∧n < es.length],[es.length≤9223372036854775807],.bp r zero.length n.toNat 0,[],none,[r]⟩
   | false=>none
 | some (.buf _ z es)=>match z.length == zero.length with
   | true=>some ⟨[0≤n∧n < es.length],[es.length≤9223372036854775807],.bp r zero.length n.toNat 0,[],none,[r]⟩
   | false=>none
 | _=>none
def iasP (zero:List AV)(r sz lo hi:Nat)(n:Int):Option Blk→Option Res
 | some (.buf _ z es)=>match z.length == zero.length && z.length == sz with
   | true=>some ⟨[0≤n∧n < ((hi - lo:Nat):Int)∧lo≤hi∧hi≤es.length],[],.bp r zero.length (lo+n.toNat) 0,[],none,[r]⟩
   | false=>none
 | _=>none
def iaddrSM (m:Nat→Option Blk)(zero:List AV):AV→AV→Option Res
 | .vw r _ _ _,.int _ n=>iasV zero r n (m r)
 | .sv r sz lo hi,.int _ n=>iasP zero r sz lo hi n (m r)
 | x,i=>iaddrSR zero x i
def sel (n:Nat)(j:Int):Nat:=if j.toNat < n then j.toNat else 0
def iaddrAR (n sz:Nat):AV→A→AV→Option Res
 | .ptr r o,.c (.int _ j),_=>Res.qp (0≤j∧j < n) (.ptr r (o+j.toNat * sz))
 | .ptr r o,.t _,.int _ j=>Res.qp (0≤j∧j < n) (.ptr r (o+sel n j * sz))
 | .ep z es i o,.c (.int _ j),_=>Res.qp (0≤j∧j < n) (.ep z es i (o+j.toNat * sz))
 | .ep z es i o,.t _,.int _ j=>Res.qp (0≤j∧j < n) (.ep z es i (o+sel n j * sz))
 | _,_,_=>none
def faddrR (off:Nat):AV→Option Res
 | .ptr r o=>Res.q (.ptr r (o+off))
 | .ep z es i o=>Res.q (.ep z es i (o+off))
 | .bp r sz i o=>Res.q (.bp r sz i (o+off))
 | _=>none
def un1:IOp→AV→Option Res
 | .mov _,v=>Res.q v
 | .not _,.bool b=>Res.q (.bool !b)
 | .neg _,.int k n=>Res.q (.int k (k.wrap (0 - n)))
 | .conv k _,.int _ n=>Res.q (.int k (k.wrap n))
 | .extract i _,.tup vs=>match vs[i]? with
   | some v=>Res.q v
   | none=>none
 | .nilchk _,.ptr r o=>Res.q (.ptr r o)
 | .nilchk _,.ep z es i o=>Res.q (.ep z es i o)
 | _,_=>none
def toR:Option AV→Option Res
 | some v=>Res.q v
 | none=>none
def bind1 (x:Option AV)(f:AV→Option Res):Option Res:=match x with
 | some v=>f v
 | none=>none
def bind2 (x y:Option AV)(f:AV→AV→Option Res):Option Res:=match x,y with
 | some v,some w=>f v w
 | _,_=>none
def boxR (n d:Nat)(v:AV):Option Res:=match cellsOfAV n v with
 | some cs=>some ⟨[],[],.ptr ((64 * d+64)) 0,[],some ((64 * d+64),.cells cs),[]⟩
 | none=>none
def lenV (ty r:Nat):Option Blk→Option Res
 | some (.qb _ _ es)=>match ty with
   | 0=>some ⟨[],[es.length≤9223372036854775807],.int .i64 es.length,[],none,[r]⟩
   | _=>none
 | some (.buf _ _ es)=>match ty with
   | 0=>some ⟨[],[es.length≤9223372036854775807],.int .i64 es.length,[],none,[r]⟩
   | _=>none
 | _=>none
def lenM (m:Nat→Option Blk)(ty:Nat):AV→Option Res
 | .vw r _ _ _=>lenV ty r (m r)
 | v=>lenR ty v
def ysP (k r sz lo hi:Nat):Option Blk→Option (List (List AV)×List Nat)
 | some (.buf _ z es)=>match z.length == k && z.length == sz with
   | true=>some ((es.drop lo).take (hi - lo),[r])
   | false=>none
 | _=>none
def ysOf (m:Nat→Option Blk)(k:Nat):AV→Option (List (List AV)×List Nat)
 | .sv r sz lo hi=>ysP k r sz lo hi (m r)
 | .nil=>some ([],[])
 | .lst z es=>if z.length=k then some (es,[]) else none
 | .vw r _ _ _=>match m r with
   | some (.buf _ z es)=>if z.length=k then some (es,[r]) else none
   | _=>none
 | _=>none
def baseOf (m:Nat→Option Blk)(e k d:Nat):AV→Option (Nat×List (List AV)×List Nat)
 | .nil=>some ((64 * d+64),[],[])
 | .vw r _ _ _=>match m r with
   | some (.buf t z es)=>if t=e∧z.length=k∧64≤r then some (r,es,[r]) else none
   | _=>none
 | _=>none
def appR (m:Nat→Option Blk)(e bytes:Nat)(z:List AV)(d:Nat)(x y:AV):Option Res:=
 match baseOf m e z.length d x,ysOf m z.length y with
 | some (i,es,t),some (ys,t')=>some ⟨[es.length+ys.length≤9223372036854775807,(es.length+ys.length) * bytes≤140737488355328],[],.vw i 0 0 0,[],some (i,.buf e z (es ++ ys)),t ++ t'⟩
 | _,_=>none
def appQ (e bytes:Nat)(z:List AV)(r:Nat):Option Blk→Option (List (List AV)×List Nat)→Option Res
 | some (.qb t z' es),some (ys,t')=>match decide (t=e∧z'.length=z.length∧64≤r) with
   | true=>some ⟨[0 < ys.length,es.length+ys.length≤9223372036854775807,(es.length+ys.length) * bytes≤140737488355328],[],.vw r 0 0 0,[],some (r,.qb e z' (es ++ ys)),r::t'⟩
   | false=>none
 | _,_=>none
def isQ (m:Nat→Option Blk):AV→Option Nat
 | .vw r _ _ _=>match m r with
   | some (.qb _ _ _)=>some r
   | _=>none
 | _=>none
def appQR (m:Nat→Option Blk)(e bytes:Nat)(z:List AV)(d:Nat)(x y:AV):Option Res:=match isQ m x with
 | some r=>appQ e bytes z r (m r) (ysOf m z.length y)
 | none=>appR m e bytes z d x y
def cpB (sz r:Nat):Option Blk→Option (List (List AV)×List Nat)→Option Res
 | some (.buf t z es),some (ys,t')=>match decide (sz=1∧z.length=1) with
   | true=>some ⟨[],[],.int .i64 ((min ys.length es.length:Nat):Int),[(r,.buf t z (ys.take es.length ++ es.drop ys.length))],none,r::t'⟩
   | false=>none
 | _,_=>none
def cpR0 (m:Nat→Option Blk)(sz:Nat):AV→AV→Option Res
 | .vw r _ _ _,y=>cpB sz r (m r) (ysOf m 1 y)
 | _,_=>none
def cpS (sz s r lo hi:Nat):Option Blk→Option (List (List AV)×List Nat)→Option Res
 | some (.buf t z es),some (ys,t')=>match decide (sz=1∧(s=1∧z.length=1)) with
   | true=>some ⟨[lo < hi∧hi≤es.length∧0 < ys.length],[],.int .i64 ((min ys.length (hi - lo):Nat):Int),[(r,.buf t z (es.take lo ++ ys.take (hi - lo) ++ es.drop (lo+min ys.length (hi - lo))))],none,r::t'⟩
   | false=>none
 | _,_=>none
def cpR (m:Nat→Option Blk)(sz:Nat)(x y:AV):Option Res:=match x with
 | .sv r s lo hi=>cpS sz s r lo hi (m r) (ysOf m 1 y)
 | x=>cpR0 m sz x y
def appZR (m:Nat→Option Blk)(e bytes:Nat)(z:List AV)(d:Nat)(x y:AV):Option Res:=
 match baseOf m e z.length d x,y with
 | some (i,es,t),.int _ n=>some ⟨[0≤n,es.length+n.toNat≤9223372036854775807,(es.length+n.toNat) * bytes≤140737488355328],[],.vw i 0 0 0,[],some (i,.buf e z (es ++ List.replicate n.toNat z)),t⟩
 | _,_=>none
def appDR (m:Nat→Option Blk)(e bytes:Nat)(z:List AV)(d:Nat)(x y:AV):Option Res:=
 match x with
 | .nil=>appR m e bytes z d x y
 | .vw r _ _ _=>match r == 64 * d+64,baseOf m e z.length d x,ysOf m z.length y with
   | false,some (_,es,t),some (ys,t')=>some ⟨[es.length+ys.length≤9223372036854775807,(es.length+ys.length) * bytes≤140737488355328],[],.vw (64 * d+64) 0 0 0,[(r,.dead)],some (64 * d+64,.buf e z (es ++ ys)),t ++ t'⟩
   | _,_,_=>none
 | _=>none
def byteOf:List AV→UInt8
 | [.int _ n]=>UInt8.ofNat n.toNat
 | _=>0
def bytesOf (es:List (List AV)):List UInt8:=es.map byteOf
def ByteE (es:List (List AV)):Prop:=∀ e∈es,∃ n,e= [.int .u8 n]
def b2sB (r:Nat):Option Blk→Option Res
 | some (.buf _ z es)=>match z.length with
   | 1=>some ⟨[ByteE es],[],.str (bytesOf es),[],none,[r]⟩
   | _=>none
 | _=>none
def b2sP (r sz lo hi:Nat):Option Blk→Option Res
 | some (.buf _ z es)=>match z.length == 1 && sz == 1 with
   | true=>some ⟨[ByteE ((es.drop lo).take (hi - lo))],[],.str (bytesOf ((es.drop lo).take (hi - lo))),[],none,[r]⟩
   | false=>none
 | _=>none
def b2sR (m:Nat→Option Blk):AV→Option Res
 | .nil=>Res.q (.str [])
 | .lst z es=>match z.length with
   | 1=>some ⟨[ByteE es],[],.str (bytesOf es),[],none,[]⟩
   | _=>none
 | .vw r _ _ _=>b2sB r (m r)
 | .sv r sz lo hi=>b2sP r sz lo hi (m r)
 | _=>none
def bytesE (s:List UInt8):List (List AV):=s.map λb=>[.int .u8 (b.toNat:Int)]
def s2bR:AV→Option Res
 | .str s=>some ⟨[s.length≤9223372036854775807],[],.lst [.int .u8 0] (bytesE s),[],none,[]⟩
 | _=>none
def idxSR:AV→AV→Option Res
 | .str s,.int _ n=>some ⟨[0≤n∧n < s.length],[],.int .u8 ((s.getD n.toNat 0).toNat:Int),[],none,[]⟩
 | _,_=>none
def boundA (σ:St)(p:List (Nat×Bool)):Option A→Option (Option AV)
 | none=>some none
 | some x=>(av σ p x).map some
def loOf:Option AV→Option Int
 | none=>some 0
 | some (.int _ n)=>some n
 | _=>none
def hiOf (len:Nat):Option AV→Option Int
 | none=>some len
 | some (.int _ n)=>some n
 | _=>none
def slB (r sz:Nat)(lo hi:Option AV):Option Blk→Option Res
 | some (.buf _ z es)=>match loOf lo,hiOf es.length hi,z.length == sz with
   | some l,some h,true=>some ⟨[0≤l∧l≤h∧h≤es.length],[],.sv r sz l.toNat h.toNat,[],none,[r]⟩
   | _,_,_=>none
 | _=>none
def slP (r sz a b:Nat)(lo hi:Option AV):Option Blk→Option Res
 | some (.buf _ z es)=>match loOf lo,hiOf (b - a) hi,z.length == sz with
   | some l,some h,true=>some ⟨[0≤l∧l≤h∧h≤((b - a:Nat):Int)],[],.sv r sz (a+l.toNat) (a+h.toNat),[],none,[r]⟩
   | _,_,_=>none
 | _=>none
def sliceR (m:Nat→Option Blk)(sz:Nat)(x:AV)(lo hi:Option AV):Option Res:=
 match x with
 | .lst z es=>match loOf lo,hiOf es.length hi,z.length == sz with
   | some l,some h,true=>some ⟨[0≤l∧l≤h∧h≤es.length],[],.lst z ((es.drop l.toNat).take (h.toNat - l.toNat)),[],none,[]⟩
   | _,_,_=>none
 | .nil=>match loOf lo,hiOf 0 hi with
   | some l,some h=>some ⟨[l=0∧h=0],[],.nil,[],none,[]⟩
   | _,_=>none
 | .vw r _ _ _=>slB r sz lo hi (m r)
 | .sv r sz' a b=>match sz' == sz with
   | true=>slP r sz a b lo hi (m r)
   | false=>none
 | _=>none
def sliceO (m:Nat→Option Blk)(sz:Nat):Option AV→Option (Option AV)→Option (Option AV)→Option Res
 | some x,some lo,some hi=>sliceR m sz x lo hi
 | _,_,_=>none
def slQ (sz r:Nat):Option (Option AV)→Option (Option AV)→Option Blk→Option Res
 | some lo,some none,some (.qb t z es)=>match loOf lo,z.length == sz && decide (64≤r) with
   | some l,true=>some ⟨[0≤l∧l≤es.length],[],.vw r 0 0 0,[],some (r,.qb t z (es.drop l.toNat)),[r]⟩
   | _,_=>none
 | _,_,_=>none
def sliceQ (m:Nat→Option Blk)(sz:Nat)(x:Option AV)(lo hi:Option (Option AV)):Option Res:=match x with
 | some x=>match isQ m x with
   | some r=>slQ sz r lo hi (m r)
   | none=>sliceO m sz (some x) lo hi
 | none=>none
def mkR (e bytes:Nat)(z:List AV)(d:Nat):AV→AV→Option Res
 | .int _ l,.int _ c=>some ⟨[0≤l∧l≤c∧(bytes:Int) * c≤281474976710656∧c≤9223372036854775807],[],.vw ((64 * d+64)) 0 0 0,[],some ((64 * d+64),.buf e z (List.replicate l.toNat z)),[]⟩
 | _,_=>none
def mkFR (bytes:Nat)(z:List AV):AV→AV→Option Res
 | .int _ l,.int _ c=>some ⟨[0≤l∧l≤c∧(bytes:Int) * c≤281474976710656∧c≤9223372036854775807],[],.lst z (List.replicate l.toNat z),[],none,[]⟩
 | _,_=>none
def fldR (off n:Nat)(ag:Bool):AV→Option Res
 | .agg cs=>match valOf ag n cs off with
   | some v=>Res.q v
   | none=>none
 | _=>none
def idxVR (n sz:Nat)(ag:Bool):AV→AV→Option Res
 | .agg cs,.int _ j=>match valOf ag sz cs (j.toNat * sz) with
   | some v=>some ⟨[0≤j∧j < n],[],v,[],none,[]⟩
   | none=>none
 | _,_=>none
def nilV (neg:Bool)(r:Nat):Option Blk→Option Res
 | some (.buf _ _ es)=>match neg with
   | false=>some ⟨[],[],.nb es.isEmpty,[],none,[r]⟩
   | true=>none
 | _=>none
def nilR (m:Nat→Option Blk)(neg:Bool):AV→Option Res
 | .nil=>Res.q (.bool !neg)
 | .lst _ es=>match neg with
   | false=>Res.q (.nb es.isEmpty)
   | true=>none
 | .vw r _ _ _=>nilV neg r (m r)
 | _=>none
def shR (left:Bool)(n:Nat):AV→Option Res
 | .int k a=>match left,decide (n≤k.bits) with
   | true,true=>Res.q (.int k (k.wrap (a * 2 ^ n)))
   | false,true=>Res.q (.int k (a.fdiv (2 ^ n)))
   | _,false=>none
 | _=>none
def keyA:Nat→AV→Option (List Int)
 | 0,.int .u8 a=>some [a]
 | 2,.agg [.int .i64 a,.int .i64 b]=>some [a,b]
 | _,_=>none
def lookM1 (n r:Nat)(k:Option (List Int)):Option Blk→Option Res
 | some (.ms n' ks)=>match n' == n,k with
   | true,some k=>some ⟨[],[],.bool (decide (k∈ks)),[],none,[r]⟩
   | _,_=>none
 | _=>none
def lookR (m:Nat→Option Blk)(n:Nat):AV→AV→Option Res
 | .ap r _ _ _,i=>lookM1 n r (keyA n i) (m r)
 | _,_=>none
def putM1 (n r:Nat)(k:Option (List Int)):Option Blk→Option Res
 | some (.ms n' ks)=>match n' == n,k with
   | true,some k=>some ⟨[k∉ks],[],.junk,[(r,.ms n (k::ks))],none,[r]⟩
   | _,_=>none
 | _=>none
def putR (m:Nat→Option Blk)(n:Nat):AV→AV→Option Res
 | .ap r _ _ _,i=>putM1 n r (keyA n i) (m r)
 | _,_=>none
def cloR (f d:Nat):AV→Option Res
 | .ep z es i o=>some ⟨[],[],.ap (64 * d+64) 0 0 0,[],some (64 * d+64,.clo f z es i o),[]⟩
 | _=>none
def tchR (r:Nat):Option Res→Option Res
 | some ⟨pre,post,v,[],none,t⟩=>some ⟨pre,post,v,[],none,r::t⟩
 | _=>none
def cloV (Φ:Nat→Option Ctr)(m:Nat→Option Blk)(fs:List Nat)(r:Nat)(vs:List AV):Option Blk→Option Res
 | some (.clo f z es i o)=>match fs.contains f with
   | true=>tchR r (callR m (Φ f) (vs ++ [.ep z es i o]))
   | false=>none
 | _=>none
def shvR (left:Bool):AV→AV→Option Res
 | .int k a,.int _ b=>some ⟨[0≤b],[],(match left with
   | true=> .int k (k.wrap (a * 2 ^ (min b.toNat k.bits)))
   | false=> .int k (a.fdiv (2 ^ (min b.toNat k.bits)))),[],none,[]⟩
 | _,_=>none
def saddR:AV→AV→Option Res
 | .str a,.str b=>some ⟨[((a.length+b.length:Nat):Int)≤9223372036854775807],[],.str (a ++ b),[],none,[]⟩
 | _,_=>none
def sslR (l h:Option Int):AV→Option Res
 | .str s=>some ⟨[0≤l.getD 0∧l.getD 0≤h.getD s.length∧h.getD s.length≤s.length],[],.str ((s.drop (l.getD 0).toNat).take ((h.getD s.length).toNat - (l.getD 0).toNat)),[],none,[]⟩
 | _=>none
def nilpR (neg:Bool):AV→Option Res
 | .ptr _ _=>Res.q (.bool neg)
 | .ep _ _ _ _=>Res.q (.bool neg)
 | _=>none
def glbA:List AV:=[.int .u8 0,.int .u8 2,.int .u8 4,.int .u8 7,.int .u8 9,.int .u8 11]
def globR:AV→Option Res
 | .int _ j=>some ⟨[0≤j∧j < 6],[],.ep glbA [glbA] 0 (sel 6 j),[],none,[]⟩
 | _=>none
def toArrL (z:List AV)(es:List (List AV))(n:Nat):List AV:=(List.range n).map λi=>(getE z es i).getD 0 .junk
def toArrR (n:Nat):AV→Option Res
 | .lst z es=>match z.length with
   | 1=>some ⟨[0 < n∧n≤es.length],[],.ep (toArrL z es n) [toArrL z es n] 0 0,[],none,[]⟩
   | _=>none
 | _=>none
def pvR:PV→List AV→Option Res
 | .bad,_=>none
 | .shv l,[x,y]=>shvR l x y
 | .sadd,[x,y]=>saddR x y
 | .ssl false false,[x]=>sslR none none x
 | .ssl true false,[x,.int _ l]=>sslR (some l) none x
 | .ssl false true,[x,.int _ h]=>sslR none (some h) x
 | .ssl true true,[x,.int _ l,.int _ h]=>sslR (some l) (some h) x
 | .nilp n,[x]=>nilpR n x
 | .glob,[x]=>globR x
 | .toArr n,[x]=>toArrR n x
 | _,_=>none
def pvO (k:PV):Option (List AV)→Option Res
 | some vs=>pvR k vs
 | none=>none
def evOp (Φ:Nat→Option Ctr)(io:IOp)(d:Nat)(p:List (Nat×Bool))(σ:St):Option Res:=
 match io with
 | .pv k xs=>pvO k (avs σ p xs)
 | .mov x=>bind1 (av σ p x) (un1 (.mov x))
 | .not x=>bind1 (av σ p x) (un1 (.not x))
 | .neg x=>bind1 (av σ p x) (un1 (.neg x))
 | .conv k x=>bind1 (av σ p x) (un1 (.conv k x))
 | .extract i x=>bind1 (av σ p x) (un1 (.extract i x))
 | .nilchk x=>bind1 (av σ p x) (un1 (.nilchk x))
 | .pick c a b=>match slotOf c with
   | some k=>bind1 (av σ p c) λvc=>bind2 (av σ (p ++ [(k,true)]) a) (av σ (p ++ [(k,false)]) b) (pickV vc)
   | none=>none
 | .arith op x y=>bind2 (av σ p x) (av σ p y) (arithR op)
 | .cmp op ty x y=>bind2 (av σ p x) (av σ p y) λv w=>toR (cmpR op ty v w)
 | .eqa neg sh x y=>bind2 (av σ p x) (av σ p y) λv w=>toR (eqaR neg sh v w)
 | .len ty x=>bind1 (av σ p x) (lenM σ.m ty)
 | .minmax mx xs=>match avs σ p xs with
   | some (.int k n::vs)=>toR (minmaxL mx (.int k n) vs)
   | _=>none
 | .faddr off x=>bind1 (av σ p x) (faddrR off)
 | .iaddrS zero x i=>bind2 (av σ p x) (av σ p i) (iaddrSM σ.m zero)
 | .iaddrA n sz x i=>bind2 (av σ p x) (av σ p i) λv u=>iaddrAR n sz v i u
 | .load n ag x=>bind1 (av σ p x) (loadR σ.m n ag)
 | .store n x v=>bind2 (av σ p x) (av σ p v) (storeR σ.m n)
 | .alloc z=>some ⟨[],[],.ptr ((64 * d+64)) 0,[],some ((64 * d+64),.cells z),[]⟩
 | .box n x=>bind1 (av σ p x) (boxR n d)
 | .build z ps=>match fillA σ p z ps with
   | some cs=>Res.q (.agg cs)
   | none=>none
 | .bslice n z ps=>match fillS σ p z.length (List.replicate n z) ps with
   | some es=>Res.q (.lst z es)
   | none=>none
 | .append e bytes z x y=>bind2 (av σ p x) (av σ p y) (appQR σ.m e bytes z d)
 | .appD e bytes z x y=>bind2 (av σ p x) (av σ p y) (appDR σ.m e bytes z d)
 | .appZ e bytes z x y=>bind2 (av σ p x) (av σ p y) (appZR σ.m e bytes z d)
 | .call f xs=>match avs σ p xs with
   | some vs=>callE d σ.m (Φ f) vs
   | none=>none
 | .callv fs x xs=>match av σ p x,avs σ p xs with
   | some (.fn f),some vs=>match fs.contains f with
     | true=>callR σ.m (Φ f) vs
     | false=>none
   | some (.ap r _ _ _),some vs=>cloV Φ σ.m fs r vs (σ.m r)
   | _,_=>none
 | .mkmap n=>some ⟨[],[],.ap (64 * d+64) 0 0 0,[],some (64 * d+64,.ms n []),[]⟩
 | .mlook n x i=>bind2 (av σ p x) (av σ p i) (lookR σ.m n)
 | .mput n x i=>bind2 (av σ p x) (av σ p i) (putR σ.m n)
 | .mkclo f x=>bind1 (av σ p x) (cloR f d)
 | .bsliceO e n z ps=>match fillS σ p z.length (List.replicate n z) ps with
   | some es=>some ⟨[],[],.vw (64 * d+64) 0 0 0,[],some (64 * d+64,.buf e z es),[]⟩
   | none=>none
 | .eqnil neg x=>bind1 (av σ p x) (nilR σ.m neg)
 | .shl n x=>bind1 (av σ p x) (shR true n)
 | .shr n x=>bind1 (av σ p x) (shR false n)
 | .b2s x=>bind1 (av σ p x) (b2sR σ.m)
 | .s2b x=>bind1 (av σ p x) s2bR
 | .idxS x i=>bind2 (av σ p x) (av σ p i) idxSR
 | .idxV n sz ag x i=>bind2 (av σ p x) (av σ p i) (idxVR n sz ag)
 | .slice sz x l h=>sliceQ σ.m sz (av σ p x) (boundA σ p l) (boundA σ p h)
 | .mkslice e bytes z l c=>bind2 (av σ p l) (av σ p c) (mkR e bytes z d)
 | .copy sz x y=>bind2 (av σ p x) (av σ p y) (cpR σ.m sz)
 | .mkF bytes z l c=>bind2 (av σ p l) (av σ p c) (mkFR bytes z)
 | .fld off n ag x=>bind1 (av σ p x) (fldR off n ag)
 | _=>none
def pathG (g:Nat)(b:Bool):AV→Option (List (Nat×Bool))
 | .bool _=>some [(g,b)]
 | .gd q (.bool _)=>some (q ++ [(g,b)])
 | _=>none
def boolOf:AV→Option Bool
 | .bool c=>some c
 | .gd _ (.bool c)=>some c
 | _=>none
def pathP (s:Nat→AV):List (Nat×Bool)→Prop
 | []=>True
 | (g,b)::p=>boolOf (s g) =some b∧pathP s p
def pathB (s:Nat→AV):List (Nat×Bool)→Bool
 | []=>true
 | (g,b)::p=>(match boolOf (s g) with
   | some c=>c == b
   | none=>false) && pathB s p
def mergeA (c:Bool):AV→AV→Option AV
 | .int k a,.int k' b=>if k=k' then some (.int k (bif c then a else b)) else none
 | .bool a,.bool b=>some (.bool (bif c then a else b))
 | .lst z es,.lst z' es'=>if z.length=z'.length then some (.lst z' (bif c then es else es')) else none
 | _,_=>none
def mergeL (c:Bool):List AV→List AV→Option (List AV)
 | [],[]=>some []
 | x::xs,y::ys=>match mergeA c x y,mergeL c xs ys with
   | some v,some vs=>some (v::vs)
   | _,_=>none
 | _,_=>none
def mergeU (c:Bool)(m:Nat→Option Blk):List (Nat×Blk)→Option (List (Nat×Blk))
 | []=>some []
 | (r,.cells cs)::us=>match m r,mergeU c m us with
   | some (.cells cs'),some us'=>match mergeL c cs cs' with
     | some cs''=>some ((r,.cells cs'')::us')
     | none=>none
   | _,_=>none
 | _ ::_=>none
def guardL (s:Nat→AV)(p:List (Nat×Bool)):List Prop→List Prop
 | []=>[]
 | q::qs=>(pathP s p→q)::guardL s p qs
def guardR (σ:St)(p:List (Nat×Bool))(r:Option Res):Option Res:=
 match r with
 | some ⟨pre,_,v,[],none,t⟩=>some ⟨guardL σ.s p pre,[],.gd p v,[],none,t⟩
 | some ⟨pre,_,v,u::us,none,t⟩=>match p,mergeU (pathB σ.s p) σ.m (u::us) with
   | [_],some us'=>some ⟨guardL σ.s p pre,[],.gd p v,us',none,t⟩
   | _,_=>none
 | _=>none
def evG (Φ:Nat→Option Ctr)(o:RO)(σ:St):Option Res:=
 match o.guard with
 | none=>evOp Φ o.op (o.dst.getD 0) [] σ
 | some (g,b)=>match pathG g b (σ.s g) with
   | some p=>guardR σ p (evOp Φ o.op (o.dst.getD 0) p σ)
   | none=>none
@[simp] def liveB:Blk→Option Blk
  | .cells cs=>some (.cells cs)
  | .buf t z es=>some (.buf t z es)
  | .qb t z es=>some (.qb t z es)
  | .ms n ks=>some (.ms n ks)
  | .clo f z es i o=>some (.clo f z es i o)
  | .dead=>none
def updL (m:Nat→Option Blk):List (Nat×Blk)→Nat→Option Blk
 | []=>m
 | (r,b)::us=>updL (updM m r (liveB b)) us
def St.put (σ:St):Option Nat→Res→St
 | none,⟨_,_,_,us,_,_⟩=>⟨σ.s,updL σ.m us⟩
 | some d,⟨_,_,v,us,none,_⟩=>⟨upd σ.s d v,updL σ.m us⟩
 | some d,⟨_,_,v,us,some (i,b),_⟩=>⟨upd (killS i σ.s) d v,updM (killM i (updL σ.m us)) i (some (killB i b))⟩
def askL:List Prop→Prop→Prop
 | [],K=>K
 | q::qs,K=>q∧askL qs K
def knowL:List Prop→Prop→Prop
 | [],K=>K
 | q::qs,K=>q→knowL qs K
def frz0 (r:Nat)(z:List AV)(es:List (List AV)):AV→AV
 | .vw r' a b c=>if r'=r then .lst z es else .vw r' a b c
 | .sv r' sz lo hi=>if r'=r then (if sz=z.length then .lst z ((es.drop lo).take (hi - lo)) else .junk) else .sv r' sz lo hi
 | .int k n=> .int k n
 | .bool b=> .bool b
 | .str s=> .str s
 | .agg cs=> .agg cs
 | .tup cs=> .tup cs
 | .lst z es=> .lst z es
 | .ep z es i o=> .ep z es i o
 | .ptr r o=> .ptr r o
 | .ap r o n i=> .ap r o n i
 | .bp r z i o=> .bp r z i o
 | .fr i t z es=> .fr i t z es
 | .fp i cs=> .fp i cs
 | .nb e=> .nb e
 | .fn f=> .fn f
 | .nil=> .nil
 | .gd c v=> .gd c v
 | .junk=> .junk
def frz1 (r:Nat)(z:List AV)(es:List (List AV)):AV→AV
 | .agg cs=> .agg (cs.map (frz0 r z es))
 | x=>frz0 r z es x
def frz2 (r:Nat)(z:List AV)(es:List (List AV)):AV→AV
 | .tup vs=> .tup (vs.map (frz1 r z es))
 | x=>frz1 r z es x
def frz3 (r:Nat)(z:List AV)(es:List (List AV)):AV→AV
 | .gd c v=> .gd c (frz2 r z es v)
 | x=>frz2 r z es x
def frzB (r:Nat)(z:List AV)(es:List (List AV)):Blk→Blk
 | .cells cs=> .cells (cs.map (frz0 r z es))
 | .buf t z' es'=> .buf t z' es'
 | .qb t z es=> .qb t z es
 | .ms n ks=> .ms n ks
 | .clo f z es i o=> .clo f z es i o
 | .dead=> .dead
def frzSl (r:Nat)(z:List AV)(es:List (List AV))(s:Nat→AV):Nat→AV:=λk=>frz3 r z es (s k)
def frzM (r:Nat)(z:List AV)(es:List (List AV))(m:Nat→Option Blk):Nat→Option Blk:=λk=>match m k with
 | none=>none
 | some b=>some (frzB r z es b)
def frzQ (r:Nat)(s:Nat→AV)(m:Nat→Option Blk):Option Blk→St
 | some (.buf _ z es)=>match decide (64≤r) with
   | true=>⟨frzSl r z es s,updM (frzM r z es m) r none⟩
   | false=>⟨s,m⟩
 | _=>⟨s,m⟩
def frzS (r:Nat)(σ:St):St:=frzQ r σ.s σ.m (σ.m r)
def frzL:List Nat→St→St
 | [],σ=>σ
 | r::rs,σ=>frzL rs (frzS r σ)
def fzB (k r:Nat)(s:Nat→AV)(m:Nat→Option Blk):Option Blk→St
 | some (.cells cs)=>match decide (64≤r) && cs.all AV.clean0 with
   | true=>⟨upd s k (.ep cs [cs] 0 0),updM m r none⟩
   | false=>⟨s,m⟩
 | _=>⟨s,m⟩
def ghV (k:Nat)(σ:St)(f:St):AV→St
 | .ptr r 0=>fzB k r σ.s σ.m (σ.m r)
 | _=>f
def ren0 (k R:Nat):AV→AV
 | .vw r a b c=>if r=k then .vw R a b c else .vw r a b c
 | .ptr r o=>if r=k then .ptr R o else .ptr r o
 | .int k n=> .int k n
 | .bool b=> .bool b
 | .str s=> .str s
 | .agg cs=> .agg cs
 | .tup cs=> .tup cs
 | .lst z es=> .lst z es
 | .ep z es i o=> .ep z es i o
 | .ap r o n i=> .ap r o n i
 | .sv r z l h=> .sv r z l h
 | .bp r z i o=> .bp r z i o
 | .fr i t z es=> .fr i t z es
 | .fp i cs=> .fp i cs
 | .nb e=> .nb e
 | .fn f=> .fn f
 | .nil=> .nil
 | .gd c v=> .gd c v
 | .junk=> .junk
def ren1 (k R:Nat):AV→AV
 | .agg cs=> .agg (cs.map (ren0 k R))
 | x=>ren0 k R x
def ren2 (k R:Nat):AV→AV
 | .tup vs=> .tup (vs.map (ren1 k R))
 | x=>ren1 k R x
def ren3 (k R:Nat):AV→AV
 | .gd c v=> .gd c (ren2 k R v)
 | x=>ren2 k R x
def renB (k R:Nat):Blk→Blk
 | .cells cs=> .cells (cs.map (ren0 k R))
 | .buf t z es=> .buf t z es
 | .qb t z es=> .qb t z es
 | .ms n ks=> .ms n ks
 | .clo f z es i o=> .clo f z es i o
 | .dead=> .dead
def renSl (k R:Nat)(s:Nat→AV):Nat→AV:=λi=>ren3 k R (kill3 R (s i))
def renM (k R:Nat)(m:Nat→Option Blk):Nat→Option Blk:=λi=>match m i with
 | none=>none
 | some b=>some (renB k R (killB R b))
def renQ (k R:Nat)(s:Nat→AV)(m:Nat→Option Blk):Option Blk→St
 | some (.buf t z es)=>match decide (64≤R) && (decide (64≤k) && !(k == R)) with
   | true=>⟨renSl k R s,updM (updM (renM k R m) k none) R (some (.buf t z es))⟩
   | false=>⟨s,m⟩
 | some (.cells cs)=>match decide (64≤R) && (decide (64≤k) && !(k == R)) with
   | true=>⟨renSl k R s,updM (updM (renM k R m) k none) R (some (renB k R (killB R (.cells cs))))⟩
   | false=>⟨s,m⟩
 | _=>⟨s,m⟩
def renS (k R:Nat)(σ:St):St:=renQ k R σ.s σ.m (σ.m k)
def nlV (d R T:Nat)(z:List AV)(s:Nat→AV)(m:Nat→Option Blk):AV→St
 | .nil=>match decide (64≤R) && decide (0 < z.length) with
   | true=>⟨upd (killS R s) d (.vw R 0 0 0),updM (killM R m) R (some (.buf T z []))⟩
   | false=>⟨s,m⟩
 | _=>⟨s,m⟩
def nlS (d R T:Nat)(z:List AV)(σ:St):St:=nlV d R T z σ.s σ.m (σ.s d)
def nlC2 (r i R T:Nat)(z:List AV)(s:Nat→AV)(m:Nat→Option Blk)(cs:List AV):Option AV→St
 | some .nil=>match decide (64≤R) && (decide (0 < z.length) && !(r == R)) with
   | true=>⟨killS R s,updM (updM (killM R m) r (some (.cells ((cs.map (kill0 R)).set i (.vw R 0 0 0))))) R (some (.buf T z []))⟩
   | false=>⟨s,m⟩
 | _=>⟨s,m⟩
def nlC1 (r i R T:Nat)(z:List AV)(s:Nat→AV)(m:Nat→Option Blk):Option Blk→St
 | some (.cells cs)=>nlC2 r i R T z s m cs cs[i]?
 | _=>⟨s,m⟩
def nlC (r i R T:Nat)(z:List AV)(σ:St):St:=nlC1 r i R T z σ.s σ.m (σ.m r)
inductive Lk where
 | frz (k:Nat)
 | ren (k R:Nat)
 | nls (d R T:Nat) (z:List AV)
 | nlc (r i R T:Nat) (z:List AV)
def applyK:Lk→St→St
 | .frz k,σ=>frzS k σ
 | .ren k R,σ=>renS k R σ
 | .nls d R T z,σ=>nlS d R T z σ
 | .nlc r i R T z,σ=>nlC r i R T z σ
def applyL:List Lk→St→St
 | [],σ=>σ
 | l::ls,σ=>applyL ls (applyK l σ)
def renK (k R:Nat):Bool→List Lk
 | true=>[]
 | false=>[.ren k R]
def nlK (d R:Nat):Option Blk→List Lk
 | some (.buf T z _)=>[.nls d R T z]
 | _=>[]
def nlKc (r i R:Nat):Option Blk→List Lk
 | some (.buf T z _)=>[.nlc r i R T z]
 | _=>[]
def lk0 (x y:AV):List Lk:=match x,y with
 | .vw k _ _ _,.lst _ _=>[.frz k]
 | .sv k _ _ _,.lst _ _=>[.frz k]
 | .vw k _ _ _,.vw R _ _ _=>renK k R (k == R)
 | _,_=>[]
def lkAs:List AV→List AV→List Lk
 | x::xs,y::ys=>lk0 x y ++ lkAs xs ys
 | _,_=>[]
def lk1 (x y:AV):List Lk:=match x,y with
 | .agg xs,.agg ys=>lkAs xs ys
 | x,y=>lk0 x y
def lkVs:List AV→List AV→List Lk
 | x::xs,y::ys=>lk1 x y ++ lkVs xs ys
 | _,_=>[]
def lkS (B:Nat→Option Blk)(d:Nat)(x y:AV):List Lk:=match x,y with
 | .nil,.vw R _ _ _=>nlK d R (B R)
 | x,y=>lk1 x y
def lkC0 (B:Nat→Option Blk)(r i:Nat)(x y:AV):List Lk:=match x,y with
 | .nil,.vw R _ _ _=>nlKc r i R (B R)
 | x,y=>lk0 x y
def lkC (B:Nat→Option Blk)(r:Nat):Nat→List AV→List AV→List Lk
 | i,x::xs,y::ys=>lkC0 B r i x y ++ lkC B r (i+1) xs ys
 | _,_,_=>[]
def lkB (B:Nat→Option Blk)(r:Nat):Option Blk→Blk→List Lk
 | some (.cells cs),.cells ds=>lkC B r 0 cs ds
 | _,_=>[]
def lkL (B:Nat→Option Blk)(s:Nat→AV):List (Nat×AV)→List Lk
 | []=>[]
 | (d,v)::l=>lkS B d (s d) v ++ lkL B s l
def lkM (B:Nat→Option Blk)(m:Nat→Option Blk):List (Nat×Blk)→List Lk
 | []=>[]
 | (r,b)::l=>lkB B r (m r) b ++ lkM B m l
def unfr0 (d:Nat):AV→AV
 | .fr j _ _ _=> .vw ((64 * d+64)+j) 0 0 0
 | .fp j _=> .ptr ((64 * d+64)+j) 0
 | .int k n=> .int k n
 | .bool b=> .bool b
 | .str s=> .str s
 | .lst z es=> .lst z es
 | .fn f=> .fn f
 | .nil=> .nil
 | _=> .junk
def unfr1 (d:Nat):AV→AV
 | .agg cs=> .agg (cs.map (unfr0 d))
 | x=>unfr0 d x
def unfr2 (d:Nat):AV→AV
 | .tup vs=> .tup (vs.map (unfr1 d))
 | x=>unfr1 d x
def frs0:AV→List (Nat×Blk)
 | .fr j t z es=>[(j,.buf t z es)]
 | .fp j cs=>[(j,.cells cs)]
 | _=>[]
def frsL:List AV→List (Nat×Blk)
 | []=>[]
 | x::xs=>frs0 x ++ frsL xs
def frs1:AV→List (Nat×Blk)
 | .agg cs=>frsL cs
 | x=>frs0 x
def frsV:List AV→List (Nat×Blk)
 | []=>[]
 | x::xs=>frs1 x ++ frsV xs
def frs2:AV→List (Nat×Blk)
 | .tup vs=>frsV vs
 | x=>frs1 x
def wfX0:AV→Bool
 | .int _ _ | .bool _ | .str _ | .lst _ _ | .fn _ | .nil=>true
 | .fr _ _ z _=>decide (0 < z.length)
 | .fp _ cs=>cs.all AV.clean0
 | _=>false
def wfX1:AV→Bool
 | .agg cs=>cs.all wfX0
 | x=>wfX0 x
def wfX2:AV→Bool
 | .tup vs=>vs.all wfX1
 | x=>wfX1 x
def flatX0:AV→Bool
 | .int _ _ | .bool _ | .str _ | .fn _ | .nil=>true
 | .fr _ _ z _=>z.all λc=>match c with
   | .int _ _ | .bool _ | .str _=>true
   | _=>false
 | .fp _ cs=>cs.all AV.flat0
 | _=>false
def flatX1:AV→Bool
 | .agg cs=>cs.all flatX0
 | x=>flatX0 x
def flatX2:AV→Bool
 | .tup vs=>vs.all flatX1
 | x=>flatX1 x
def flatL:List (Nat×Blk)→Prop
 | []=>True
 | (_,.buf _ _ es)::l=>FlatE es∧flatL l
 | (_,.cells _)::l=>flatL l
 | (_,.qb _ _ _)::_=>False
 | (_,.ms _ _)::l=>flatL l
 | (_,.clo _ _ _ _ _)::_=>False
 | (_,.dead)::l=>flatL l
def nodupN:List Nat→Bool
 | []=>true
 | x::xs=>!xs.contains x && nodupN xs
def idsOK (l:List (Nat×Blk)):Bool:=nodupN (l.map (·.1)) && (l.map (·.1)).all λj=>decide (j < 64)
def addF (d:Nat):List (Nat×Blk)→St→St
 | [],σ=>σ
 | (j,b)::l,σ=>addF d l ⟨killS ((64 * d+64)+j) σ.s,updM (killM ((64 * d+64)+j) σ.m) ((64 * d+64)+j) (some b)⟩
def putX (d:Nat)(r:AV)(σ:St):St:=⟨upd (addF d (frs2 r) σ).s d (unfr2 d r),(addF d (frs2 r) σ).m⟩
def backX (bs:List Nat)(f:Bool)(fl:Prop)(σ:St)(K:St→Prop):Prop:=match bs with
 | []=>K σ
 | _ ::_=>match f with
   | true=>fl∧K σ
   | false=>(bs.all λr=>decide (64≤r)) =true∧K (frzL bs σ)
def evXP (d:Nat)(bs:List Nat)(σ:St)(K:St→Prop)(o:Prop×AV×List AV):Prop:=
 o.1→(wfX2 o.2.1 && idsOK (frs2 o.2.1)) =true∧backX bs (flatX2 o.2.1) (flatL (frs2 o.2.1)) σ λσ=>K (putX d o.2.1 σ)
def evXS (r d:Nat)(bs:List Nat)(σ:St)(K:St→Prop)(o:Prop×AV×List AV):Prop:=
 o.1→(wfX2 o.2.1 && (idsOK (frs2 o.2.1) && o.2.2.all AV.clean0)) =true∧backX bs (flatX2 o.2.1 && o.2.2.all AV.flat0) (flatL (frs2 o.2.1)) σ λσ=>K (putX d o.2.1 ⟨σ.s,updM σ.m r (some (.cells o.2.2))⟩)
def evXN (ι:Type)(d:Nat)(bs:List Nat)(σ:St)(K:St→Prop):Option (Prop×(ι→Prop×AV×List AV))→Prop
 | some (q,g)=>q∧∀ i,evXP d bs σ K (g i)
 | none=>False
def evXM (ι:Type)(r d:Nat)(bs:List Nat)(σ:St)(K:St→Prop):Option (Prop×(ι→Prop×AV×List AV))→Prop
 | some (q,g)=>q∧∀ i,evXS r d bs σ K (g i)
 | none=>False
def evXA (ι:Type)(fn:List AV→List AV→Option (Prop×(ι→Prop×AV×List AV)))(d:Nat)(σ:St)(K:St→Prop):Option (List AV×List Nat)→Prop
 | some (vs,bs)=>evXN ι d bs σ K (fn [] vs)
 | none=>False
def evXB (ι:Type)(fn:List AV→List AV→Option (Prop×(ι→Prop×AV×List AV)))(r d:Nat)(cs:List AV)(σ:St)(K:St→Prop):Option (List AV×List Nat)→Prop
 | some (vs,bs)=>cs.all AV.clean0=true∧evXM ι r d bs σ K (fn cs vs)
 | none=>False
def evXC (ι:Type)(fn:List AV→List AV→Option (Prop×(ι→Prop×AV×List AV)))(r d:Nat)(vs:List AV)(σ:St)(K:St→Prop):Option Blk→Prop
 | some (.cells cs)=>evXB ι fn r d cs σ K (lends σ.m vs)
 | _=>False
def evX (st:Bool)(ι:Type)(fn:List AV→List AV→Option (Prop×(ι→Prop×AV×List AV)))(d:Nat)(vs:List AV)(σ:St)(K:St→Prop):Prop:=
 match st with
 | false=>evXA ι fn d σ K (lends σ.m vs)
 | true=>match vs with
   | .ptr r 0::vs=>evXC ι fn r d vs σ K (σ.m r)
   | _=>False
def evXV (st:Bool)(ι:Type)(fn:List AV→List AV→Option (Prop×(ι→Prop×AV×List AV)))(d:Nat)(σ:St)(K:St→Prop):Option (List AV)→Prop
 | some vs=>evX st ι fn d vs σ K
 | none=>False
def mkS2 (d k:Nat)(σ:St)(K:St→Prop):Option Blk→Prop
 | some (.buf _ z es)=>match decide (64≤k) with
   | true=>es≠ []∧K ⟨upd (frzSl k z es σ.s) d (.lst z es),updM (frzM k z es σ.m) k none⟩
   | false=>False
 | _=>False
def mkS1 (d:Nat)(σ:St)(K:St→Prop):AV→Prop
 | .vw k _ _ _=>mkS2 d k σ K (σ.m k)
 | _=>False
def strOf (o:RO):Option (Nat×A):=match o with
 | ⟨some d,.mkstr x,none,_⟩=>some (d,x)
 | _=>none
def vws0:AV→List Nat
 | .vw r _ _ _=>[r]
 | .sv r _ _ _=>[r]
 | _=>[]
def vwsL:List AV→List Nat
 | []=>[]
 | x::xs=>vws0 x ++ vwsL xs
def vws1:AV→List Nat
 | .agg cs=>vwsL cs
 | x=>vws0 x
def vwsG (σ:St):List (Nat×A)→List Nat
 | []=>[]
 | (_,x)::ps=>vws1 (ar σ x) ++ vwsG σ ps
def vwsT (v:AV):AV→List Nat
 | .bp _ _ _ _=>vws1 v
 | _=>[]
def preF (σ:St):IOp→List Nat
 | .bslice _ _ ps=>vwsG σ ps
 | .bsliceO _ _ _ ps=>vwsG σ ps
 | .store _ x v=>vwsT (ar σ v) (ar σ x)
 | _=>[]
def ptr0:AV→List Nat
 | .ptr r _=>[r]
 | _=>[]
def ptrL:List AV→List Nat
 | []=>[]
 | x::xs=>ptr0 x ++ ptrL xs
def ptrB:Option Blk→List Nat
 | some (.cells cs)=>ptrL cs
 | _=>[]
def row0:AV→List Nat
 | .vw r _ _ _=>[r]
 | .ap r _ _ _=>[r]
 | _=>[]
def rowL:List AV→List Nat
 | []=>[]
 | x::xs=>row0 x ++ rowL xs
def rowB:Option Blk→List Nat
 | some (.cells cs)=>rowL cs
 | _=>[]
def gatO (m:Nat→Option Blk):Nat→List Nat→List Nat→List Nat
 | 0,_,acc=>acc
 | _+1,[],acc=>acc
 | n+1,r::t,acc=>match acc.contains r with
   | true=>gatO m n t acc
   | false=>gatO m n (ptrB (m r) ++ t) (acc ++ [r])
def gatR (m:Nat→Option Blk):List Nat→List Nat
 | []=>[]
 | r::rs=>rowB (m r) ++ gatR m rs
def zipN:Nat→List Nat→List (Nat×Nat)
 | _,[]=>[]
 | n,r::l=>(r,n)::zipN (n+1) l
def rowN (ho:List Nat)(i:Nat):Bool→Nat
 | true=>1048576+i
 | false=>32+i
def zipR (ho:List Nat):Nat→List Nat→List (Nat×Nat)
 | _,[]=>[]
 | n,r::l=>(r,rowN ho n (ho.contains n))::zipR ho (n+1) l
def lookN:List (Nat×Nat)→Nat→Option Nat
 | [],_=>none
 | (a,b)::l,x=>if x=a then some b else lookN l x
def mapP (o:Nat):Option Nat→AV
 | some r=> .ptr r o
 | none=> .junk
def mapV:Option Nat→AV
 | some r=> .vw r 0 0 0
 | none=> .junk
def mapQ:Option Nat→AV
 | some r=> .ap r 0 0 0
 | none=> .junk
def mapA0 (L:List (Nat×Nat)):AV→AV
 | .ptr r o=>mapP o (lookN L r)
 | .vw r _ _ _=>mapV (lookN L r)
 | .ap r _ _ _=>mapQ (lookN L r)
 | .sv _ _ _ _ | .bp _ _ _ _ | .fr _ _ _ _ | .fp _ _ | .agg _ | .tup _ | .gd _ _ | .junk=> .junk
 | .nb e=> .nb e
 | .int k n=> .int k n
 | .bool b=> .bool b
 | .str s=> .str s
 | .lst z es=> .lst z es
 | .ep z es i o=> .ep z es i o
 | .fn f=> .fn f
 | .nil=> .nil
def mapA1 (L:List (Nat×Nat)):AV→AV
 | .agg cs=> .agg (cs.map (mapA0 L))
 | x=>mapA0 L x
def mapA2 (L:List (Nat×Nat)):AV→AV
 | .tup vs=> .tup (vs.map (mapA1 L))
 | x=>mapA1 L x
def mapB (L:List (Nat×Nat)):Blk→Blk
 | .cells cs=> .cells (cs.map (mapA0 L))
 | .buf t z es=> .buf t z es
 | .qb t z es=> .qb t z es
 | .ms n ks=> .ms n ks
 | .clo f z es i o=> .clo f z es i o
 | .dead=> .dead
def okIn (r j:Nat):Blk→Bool
 | .cells _=>decide (j < 64)
 | .buf _ _ _=>decide (j < 64) || decide (64≤r)
 | .clo _ _ _ _ _=>true
 | .qb _ _ _=>false
 | .ms _ _=>false
 | .dead=>false
def inC (L:List (Nat×Nat))(r j:Nat):Option Blk→Option (List (Nat×Blk))→Option (List (Nat×Blk))
 | some b,some bs=>match okIn r j b with
   | true=>some ((j,mapB L b)::bs)
   | false=>none
 | _,_=>none
def inpL (m:Nat→Option Blk)(L:List (Nat×Nat)):List (Nat×Nat)→Option (List (Nat×Blk))
 | []=>some []
 | (r,j)::l=>inC L r j (m r) (inpL m L l)
def bidO (d p nm:Nat):Option Nat→(Nat×Nat)
 | some r=>(nm,r)
 | none=>(nm,64 * d+64+p)
def unz:List (Nat×Nat)→List (Nat×Nat)
 | []=>[]
 | (r,j)::l=>match decide (j < 64) with
   | true=>(j,r)::unz l
   | false=>unz l
def bidL (d:Nat)(os:List (Nat×Nat)):Nat→List (Nat×Blk)→List (Nat×Nat)
 | _,[]=>[]
 | p,(nm,_)::l=>bidO d p nm (lookN os nm)::bidL d os (p+1) l
def okN (os:List (Nat×Nat)):List (Nat×Blk)→Bool
 | []=>true
 | (nm,_)::l=>((lookN os nm).isSome || decide (64≤nm)) && okN os l
def kl1 (r:Nat)(σ:St):St:=⟨killS r σ.s,updM (killM r σ.m) r none⟩
def drp (r:Nat)(σ:St):St:=⟨σ.s,updM σ.m r none⟩
def drpL:List Nat→St→St
 | [],σ=>σ
 | r::l,σ=>drpL l (drp r σ)
def newK (d p:Nat)(σ:St):Option Nat→St
 | some _=>σ
 | none=>kl1 (64 * d+64+p) σ
def newL (d:Nat)(os:List (Nat×Nat)):Nat→List (Nat×Blk)→St→St
 | _,[],σ=>σ
 | p,(nm,_)::l,σ=>newL d os (p+1) l (newK d p σ (lookN os nm))
def putL (L:List (Nat×Nat)):List (Nat×Nat)→List (Nat×Blk)→St→St
 | (_,r)::l,(_,b)::bs,σ=>putL L l bs ⟨σ.s,updM σ.m r (some (mapB L b))⟩
 | _,_,σ=>σ
def putG (d:Nat)(v:AV)(σ:St):St:=⟨upd σ.s d v,σ.m⟩
def liveG:Blk→Bool
 | .cells _=>true
 | .buf _ _ _=>true
 | .clo _ _ _ _ _=>true
 | .qb _ _ _=>false
 | .ms _ _=>false
 | .dead=>false
def evGP (d:Nat)(os:List (Nat×Nat))(dr:List Nat)(σ:St)(K:St→Prop)(v:AV)(bs:List (Nat×Blk))(L:List (Nat×Nat)):Prop:=
 (okN os bs && (nodupN (bs.map (·.1)) && decide (bs.length≤64))) =true∧(nodupN (L.map (·.2)) && bs.all (λb=>liveG b.2)) =true∧K (putG d (mapA2 L v) (putL L L bs (newL d os 0 bs (drpL dr σ))))
def evGO (d:Nat)(os:List (Nat×Nat))(dr:List Nat)(σ:St)(K:St→Prop)(o:Prop×AV×List (Nat×Blk)):Prop:=
 o.1→evGP d os dr σ K o.2.1 o.2.2 (bidL d os 0 o.2.2)
def evGN (ι:Type)(d:Nat)(os:List (Nat×Nat))(dr:List Nat)(σ:St)(K:St→Prop):Option (Prop×(ι→Prop×AV×List (Nat×Blk)))→Prop
 | some (q,g)=>q∧∀ i,evGO d os dr σ K (g i)
 | none=>False
def evGF (ι:Type)(fn:List (Nat×Blk)→List AV→Option (Prop×(ι→Prop×AV×List (Nat×Blk))))(d:Nat)(L:List (Nat×Nat))(vs:List AV)(σ:St)(K:St→Prop):Option (List (Nat×Blk))→Prop
 | some bs=>(nodupN (L.map (·.1)) && nodupN (L.map (·.2))) =true∧evGN ι d (unz L) (L.map (·.1)) σ K (fn bs (vs.map (mapA1 L)))
 | none=>False
def evGE (ι:Type)(fn:List (Nat×Blk)→List AV→Option (Prop×(ι→Prop×AV×List (Nat×Blk))))(d:Nat)(L:List (Nat×Nat))(vs:List AV)(σ:St)(K:St→Prop):Prop:=
 evGF ι fn d L vs σ K (inpL σ.m L L)
def evGC (ι:Type)(ho:List Nat)(fn:List (Nat×Blk)→List AV→Option (Prop×(ι→Prop×AV×List (Nat×Blk))))(d:Nat)(os:List Nat)(vs:List AV)(σ:St)(K:St→Prop):Prop:=
 evGE ι fn d (zipN 0 os ++ zipR ho 0 (rowL vs ++ gatR σ.m os)) vs σ K
def evGV (ι:Type)(ho:List Nat)(fn:List (Nat×Blk)→List AV→Option (Prop×(ι→Prop×AV×List (Nat×Blk))))(d:Nat)(σ:St)(K:St→Prop):Option (List AV)→Prop
 | some vs=>evGC ι ho fn d (gatO σ.m 24 (ptrL vs) []) vs σ K
 | none=>False
def argF (σ:St):List A→List Nat
 | []=>[]
 | x::xs=>vws1 (ar σ x) ++ argF σ xs
def frzF (fz:Bool)(xs:List A)(σ:St):St:=match fz with
 | true=>frzL (argF σ xs) σ
 | false=>σ
def evGX (ι:Type)(ho:List Nat)(fn:List (Nat×Blk)→List AV→Option (Prop×(ι→Prop×AV×List (Nat×Blk))))(d:Nat)(xs:List A)(σ:St)(K:St→Prop):Prop:=
 evGV ι ho fn d σ K (avs σ [] xs)
inductive XC where
 | ext (st:Bool) (ι:Type) (fn:List AV→List AV→Option (Prop×(ι→Prop×AV×List AV)))
 | gr (ι:Type) (ho:List Nat) (fz:Bool) (fn:List (Nat×Blk)→List AV→Option (Prop×(ι→Prop×AV×List (Nat×Blk))))
def evXK (C:XC)(d:Nat)(xs:List A)(σ:St)(K:St→Prop):Prop:=match C with
 | .ext st ι fn=>evXV st ι fn d σ K (avs σ [] xs)
 | .gr ι ho fz fn=>evGX ι ho fn d xs (frzF fz xs σ) K
def extOf (Φ:Nat→Option Ctr)(o:RO):Option (Nat×List A×XC):=match o with
 | ⟨some d,.call f xs,none,_⟩=>match Φ f with
   | some (.ext st ι fn)=>some (d,xs,.ext st ι fn)
   | some (.gr ι ho fz fn)=>some (d,xs,.gr ι ho fz fn)
   | _=>none
 | _=>none
def evOps (Φ:Nat→Option Ctr):List RO→St→(St→Prop)→Prop
 | [],σ,K=>K σ
 | o ::rest,σ,K=>match strOf o with
   | some (d,x)=>mkS1 d σ (λσ'=>evOps Φ rest σ' K) (ar σ x)
   | none=>match extOf Φ o with
   | some (d,xs,C)=>evXK C d xs σ (λσ'=>evOps Φ rest σ' K)
   | none=>match evG Φ o (frzL (preF σ o.op) σ) with
     | none=>False
     | some r=>askL r.pre (knowL r.post (evOps Φ rest ((frzL (preF σ o.op) σ).put o.dst r) K))
def pslots:AV→List Nat
 | .gd p _=>p.map (·.1)
 | _=>[]
def idsR (d:Option Nat)(r:Res):List Nat:=r.ups.map (·.1) ++ (match r.new,d with
 | some (i,_),some _=>[i]
 | _,_=>[])
def optN:Option Nat→List Nat
 | some d=>[d]
 | none=>[]
def chkR (d1:Option Nat)(r1:Res)(d:Option Nat)(r:Res):Bool:=
 disjN (pslots r.val) (optN d1) && disjN (pslots r1.val) (optN d) && disjN (idsR d1 r1) (r.tch ++ idsR d r) && disjN (idsR d r) r1.tch
def noMen (b:Nat)(r:Res):Prop:=
 kill3 b r.val=r.val∧(r.ups.map λu=>(u.1,killB b u.2)) =r.ups∧((r.ups.map (·.1)).contains b) =false∧(match r.new with
  | some (_,k)=>killB b k=k
  | none=>True)
def newMen (d:Option Nat)(r r1:Res):Prop:=match r.new,d with
 | some (i,_),some _=>noMen i r1
 | _,_=>True
def pairOK (m:Nat)(d1:Option Nat)(r1:Res)(af:List Nat)(d:Option Nat)(r:Res):Prop:=
 newMen d r r1∧(match af.contains m with
  | true=>True
  | false=>chkR d1 r1 d r=true∧newMen d1 r1 r)
def isDead:Blk→Bool
 | .dead=>true
 | .cells _=>false
 | .buf _ _ _=>false
 | .qb _ _ _=>false
 | .ms _ _=>false
 | .clo _ _ _ _ _=>false
def deadL:List (Nat×Blk)→Bool
 | []=>true
 | (_,b)::us=>isDead b && deadL us
def newOK (d:Option Nat)(r:Res):Prop:=match r.new,d with
 | some (i,b),some d=>i=(64 * d+64)∧deadL r.ups=true∧liveB (killB i b) =some b
 | some _,none=>False
 | none,_=>True
def pairD:List (Nat×Option Nat×Res)→List Nat→Option Nat→Res→Prop→Prop
 | [],_,_,_,K=>K
 | (m,d1,r1)::D,af,d,r,K=>pairOK m d1 r1 af d r∧pairD D af d r K
def knowD:List (Nat×Option Nat×Res)→Prop→Prop
 | [],K=>K
 | (_,_,r)::D,K=>knowL r.post (knowD D K)
def preK:List RO→St→St
 | [],σ=>σ
 | o::l,σ=>match o.dst,needD o.op with
   | some d,true=>preK l ⟨killS ((64 * d+64)) σ.s,updM (killM ((64 * d+64)) σ.m) ((64 * d+64)) none⟩
   | _,_=>preK l σ
def evD (Φ:Nat→Option Ctr):List RO→Nat→List (Nat×Option Nat×Res)→St→(St→Prop)→Prop
 | [],_,D,σ,K=>knowD D (K σ)
 | o::rest,n,D,σ,K=>match evG Φ o σ with
   | none=>False
   | some r=>newOK o.dst r∧askL r.pre (pairD D o.after o.dst r (evD Φ rest (n+1) ((n,o.dst,r)::D) (σ.put o.dst r) K))
structure SL where
 l:List (Nat×AV)
 b:List (Nat×Blk)
def lookL:List (Nat×AV)→Nat→AV
 | []=>λ_=> .junk
 | (d,v)::l=>upd (lookL l) d v
def lookM:List (Nat×Blk)→Nat→Option Blk
 | []=>λ_=>none
 | (r,b)::l=>updM (lookM l) r (some b)
def SL.st (S:SL):St:=⟨lookL S.l,lookM S.b⟩
def leA:AV→AV→Prop
 | .nil,.lst _ es=>es= []
 | x,y=>x=y
def leAs:List AV→List AV→Prop
 | [],[]=>True
 | x::xs,y::ys=>leA x y∧leAs xs ys
 | _,_=>False
def leV1:AV→AV→Prop
 | .agg xs,.agg ys=>leAs xs ys
 | x,y=>leA x y
def leL (s:Nat→AV):List (Nat×AV)→Prop
 | []=>True
 | (d,v)::l=>leV1 (s d) v∧leL s l
def leB:Option Blk→Blk→Prop
 | some (.cells cs),.cells ds=>leAs cs ds
 | some (.buf t z es),.buf t' z' es'=>t=t'∧z=z'∧es=es'
 | some (.buf t z es),.qb t' z' es'=>t=t'∧z=z'∧es=es'
 | some (.qb t z es),.qb t' z' es'=>t=t'∧z=z'∧es=es'
 | some (.ms n ks),.ms n' ks'=>n=n'∧ks=ks'
 | some (.clo f z es i o),.clo f' z' es' i' o'=>f=f'∧z=z'∧es=es'∧i=i'∧o=o'
 | _,_=>False
def leM (m:Nat→Option Blk):List (Nat×Blk)→Prop
 | []=>True
 | (r,b)::l=>leB (m r) b∧leM m l
def SL.ge0 (S:SL)(σ:St):Prop:=leL σ.s S.l∧leM σ.m S.b
def SL.ge1 (S:SL)(σ:St):Prop:=S.ge0 (applyL (lkL (lookM S.b) σ.s S.l ++ lkM (lookM S.b) σ.m S.b) σ)
def mv0 (x y:AV):List Lk:=match x,y with
 | .ptr k _,.ptr R _=>renK k R (k == R)
 | _,_=>[]
def mvL (s:Nat→AV):List (Nat×AV)→List Lk
 | []=>[]
 | (d,v)::l=>mv0 (s d) v ++ mvL s l
def SL.ge (S:SL)(σ:St):Prop:=S.ge1 (applyL (mvL σ.s S.l) σ)
structure LI where
 ι:Type
 S:ι→SL
 μ:ι→Nat
 R:ι→ι→Prop
def hasG (ops:List RO):Bool:=ops.any λo=>o.guard.isSome
def endR (ops:List RO)(σ:St):St:=match hasG ops with
 | true=>⟨ungdS σ.s,σ.m⟩
 | false=>σ
def kN (K:Exit→St→Prop):St→Prop:=λσ=>K .normal σ
def kSeq (E:St→(Exit→St→Prop)→Prop)(K:Exit→St→Prop):Exit→St→Prop
 | .normal,σ=>E σ K
 | .exit i,σ=>K (.exit i) σ
 | .goto l,σ=>K (.goto l) σ
 | .ret,σ=>K .ret σ
 | .panic c,σ=>K (.panic c) σ
 | .outgrown,σ=>K .outgrown σ
def kBlk (id:Nat)(K:Exit→St→Prop):Exit→St→Prop
 | .exit i,σ=>match i == id with
   | true=>K .normal σ
   | false=>K (.exit i) σ
 | .normal,σ=>K .normal σ
 | .goto l,σ=>K (.goto l) σ
 | .ret,σ=>K .ret σ
 | .panic c,σ=>K (.panic c) σ
 | .outgrown,σ=>K .outgrown σ
def kLoop (L:LI)(i0 i:L.ι)(K:Exit→St→Prop):Exit→St→Prop
 | .normal,σ=>∃ j,(L.S j).ge σ∧L.R i0 j∧L.μ j < L.μ i
 | .exit i,σ=>K (.exit i) σ
 | .goto l,σ=>K (.goto l) σ
 | .ret,σ=>K .ret σ
 | .panic c,σ=>K (.panic c) σ
 | .outgrown,σ=>K .outgrown σ
def kEnd (ops:List RO)(K:Exit→St→Prop):St→Prop:=λσ=>K .normal (endR ops σ)
def pickS (d:Option Nat)(c:A)(x y:A)(σ:St)(K:St→Prop):AV→Prop
 | .bool q=>match d,c with
   | some d,.t k=>(q=true→K ⟨upd (upd σ.s k (.bool true)) d (ar σ x),σ.m⟩)∧(q=false→K ⟨upd (upd σ.s k (.bool false)) d (ar σ y),σ.m⟩)
   | _,_=>False
 | _=>False
def evS0k (Φ:Nat→Option Ctr)(dst:Option Nat)(af:List Nat)(σ:St)(K:St→Prop)(op:IOp):Option (A×A×A)→Prop
 | some (c,x,y)=>pickS dst c x y σ K (ar σ c)
 | none=>evOps Φ [⟨dst,op,none,af⟩] σ K
def evS0 (Φ:Nat→Option Ctr)(dst:Option Nat)(af:List Nat)(σ:St)(K:St→Prop)(op:IOp):Prop:=evS0k Φ dst af σ K op (pickOf op)
def evSG (Φ:Nat→Option Ctr)(dst:Option Nat)(op:IOp)(g:Nat)(b:Bool)(af:List Nat)(σ:St)(K:St→Prop):AV→Prop
 | .bool c=>(c=b→evS0 Φ dst af ⟨upd σ.s g (.bool b),σ.m⟩ K op)∧(c=(!b)→match dst with
   | some d=>K ⟨upd (upd σ.s g (.bool !b)) d (.tup []),σ.m⟩
   | none=>K ⟨upd σ.s g (.bool !b),σ.m⟩)
 | .tup []=>match dst with
   | some d=>K ⟨upd σ.s d (.tup []),σ.m⟩
   | none=>K σ
 | _=>False
def evS1 (Φ:Nat→Option Ctr):RO→St→(St→Prop)→Prop
 | ⟨dst,op,none,af⟩,σ,K=>evS0 Φ dst af σ K op
 | ⟨dst,op,some (g,b),af⟩,σ,K=>evSG Φ dst op g b af σ K (σ.s g)
def evOpsS (Φ:Nat→Option Ctr):List RO→St→(St→Prop)→Prop
 | [],σ,K=>K σ
 | o::rest,σ,K=>evS1 Φ o σ λσ'=>evOpsS Φ rest σ' K
abbrev DL:=List (Nat×Option Nat×Res)
def vRes:Option AV→Option Res
 | some v=>some ⟨[],[],v,[],none,[]⟩
 | none=>none
def stepDS (d:Option Nat)(af:List Nat)(n:Nat)(D:DL)(σ:St)(K:DL→St→Prop):Option Res→Prop
 | none=>False
 | some r=>newOK d r∧askL r.pre (pairD D af d r (K ((n,d,r)::D) (σ.put d r)))
def pickDS (d:Option Nat)(af:List Nat)(n:Nat)(D:DL)(σ:St)(K:DL→St→Prop)(c x y:A):AV→Prop
 | .bool q=>match c with
   | .t k=>(q=true→stepDS d af n D ⟨upd σ.s k (.bool true),σ.m⟩ K (vRes (av σ [] x)))∧(q=false→stepDS d af n D ⟨upd σ.s k (.bool false),σ.m⟩ K (vRes (av σ [] y)))
   | .c _=>False
 | _=>False
def passDS (Φ:Nat→Option Ctr)(d:Option Nat)(op:IOp)(af:List Nat)(n:Nat)(D:DL)(σ:St)(K:DL→St→Prop):Option (A×A×A)→Prop
 | none=>stepDS d af n D σ K (evOp Φ op (d.getD 0) [] σ)
 | some (c,x,y)=>pickDS d af n D σ K c x y (ar σ c)
def guardDS (Φ:Nat→Option Ctr)(d:Option Nat)(op:IOp)(g:Nat)(b:Bool)(af:List Nat)(n:Nat)(D:DL)(σ:St)(K:DL→St→Prop):AV→Prop
 | .bool c=>(c=b→passDS Φ d op af n D ⟨upd σ.s g (.bool b),σ.m⟩ K (pickOf op))∧(c=(!b)→stepDS d af n D ⟨upd σ.s g (.bool !b),σ.m⟩ K (some ⟨[],[],.junk,[],none,[]⟩))
 | _=>False
def evDS1 (Φ:Nat→Option Ctr):RO→Nat→DL→St→(DL→St→Prop)→Prop
 | ⟨d,op,none,af⟩,n,D,σ,K=>passDS Φ d op af n D σ K (pickOf op)
 | ⟨d,op,some (g,b),af⟩,n,D,σ,K=>guardDS Φ d op g b af n D σ K (σ.s g)
def evDS (Φ:Nat→Option Ctr):List RO→Nat→DL→St→(St→Prop)→Prop
 | [],_,D,σ,K=>knowD D (K σ)
 | o::rest,n,D,σ,K=>evDS1 Φ o n D σ λD' σ'=>evDS Φ rest (n+1) D' σ' K
def mregS (m:Nat)(es:List (Int×Int))(a b c d:Nat)(s:Nat→AV)(M:Nat→Option Blk)(K:Exit→St→Prop):AV→Prop
 | .int .u8 n=>K .normal ⟨upd (upd (upd (upd (upd s m .junk) a .junk) b (.int .u8 n)) c (.int .i64 (lookI n es))) d (.int .i64 (lookI n es)),M⟩
 | _=>False
def waitsAll (n:Nat)(o:RO):Bool:=(List.range n).all λi=>o.after.contains i
def noG (l:List RO):Bool:=l.all λo=>o.guard.isNone
def kBar2 (Φ:Nat→Option Ctr)(n:Nat)(l2:List RO)(K:St→Prop)(σ:St):Prop:=evD Φ l2 (n+1) [] (preK l2 σ) K
def kBar1 (Φ:Nat→Option Ctr)(n:Nat)(o:RO)(l2:List RO)(K:St→Prop)(σ:St):Prop:=evOps Φ [o] σ (kBar2 Φ n l2 K)
def barOK (l1:List RO)(o:RO)(l2:List RO):Bool:=noG l1 && (noG l2 && (o.guard.isNone && (waitsAll l1.length o && l2.all (waitsAll (l1.length+1)))))
def evBar (Φ:Nat→Option Ctr)(l1:List RO)(o:RO)(l2:List RO)(σ:St)(K:St→Prop):Prop:=barOK l1 o l2=true∧evD Φ l1 0 [] (preK l1 σ) (kBar1 Φ l1.length o l2 K)
def evC (Φ:Nat→Option Ctr)(I:Nat→LI):RC→St→(Exit→St→Prop)→Prop
 | .skip,σ,K=>K .normal σ
 | .region ops false,σ,K=>evOps Φ ops σ (kEnd ops K)
 | .region ops true,σ,K=>evD Φ ops 0 [] (preK ops σ) (kEnd ops K)
 | .seq a b,σ,K=>evC Φ I a σ (kSeq (evC Φ I b) K)
 | .cond c t e,σ,K=>match ar σ c with
   | .bool b=>(b=true→evC Φ I t σ K)∧(b=false→evC Φ I e σ K)
   | .nb b=>(b=true→evC Φ I t σ K)∧evC Φ I e σ K
   | _=>False
 | .block id b,σ,K=>evC Φ I b σ (kBlk id K)
 | .loop n b,σ,K=>∃ i0,((I n).S i0).ge σ∧(I n).R i0 i0∧∀ i,(I n).R i0 i→evC Φ I b ((I n).S i).st (kLoop (I n) i0 i K)
 | .splitD ops,σ,K=>evDS Φ ops 0 [] (preK ops σ) (kEnd ops K)
 | .split ops,σ,K=>evOpsS Φ ops σ (λσ'=>K .normal σ')
 | .bar l1 o l2,σ,K=>evBar Φ l1 o l2 σ (kN K)
 | .ghost k b,σ,K=>evC Φ I b (ghV k σ (frzL (vws0 (σ.s k)) σ) (σ.s k)) K
 | .cut n b,σ,K=>∃ i0,((I n).S i0).ge σ∧(I n).R i0 i0∧∀ i,(I n).R i0 i→evC Φ I b ((I n).S i).st K
 | .mreg m es a b x c d,σ,K=>mregS m es a b c d σ.s σ.m K (ar ⟨upd (upd σ.s m .junk) a .junk,σ.m⟩ x)
 | .exit id,σ,K=>K (.exit id) σ
 | .ret,σ,K=>K .ret σ
def retV (σ:St):RV→Option AV
 | .t n=>some (σ.s n)
 | .c p n ag=>match σ.s p with
   | .ptr r o=>match σ.m r with
     | some (.cells cs)=>valOf ag n cs o
     | _=>none
   | _=>none
def retL (σ:St):List RV→Option (List AV)
 | []=>some []
 | r::rs=>match retV σ r,retL σ rs with
   | some v,some vs=>some (v::vs)
   | _,_=>none
def leVs:List AV→List AV→Prop
 | [],[]=>True
 | x::xs,y::ys=>leV1 x y∧leVs xs ys
 | _,_=>False
def resV:List AV→AV→Prop
 | [v],r=>leV1 v r
 | vs,.tup ys=>leVs vs ys
 | _,_=>False
def lkR:Option (List AV)→AV→List Lk
 | some [v],r=>lk1 v r
 | some vs,.tup ys=>lkVs vs ys
 | _,_=>[]
def lkT (st:Bool)(m:Nat→Option Blk)(cs:List AV):List Lk:=match st with
 | false=>[]
 | true=>lkB (λ_=>none) 0 (m 0) (.cells cs)
def retOK0 (rv:List RV)(r:AV)(st:Bool)(cs:List AV)(σ:St):Prop:=
 (match retL σ rv with
  | some vs=>resV vs r
  | none=>False)∧
 (match st with
  | false=>True
  | true=>match σ.m 0 with
    | some (.cells ds)=>leAs ds cs
    | _=>False)
def retOK (rv:List RV)(r:AV)(st:Bool)(cs:List AV)(σ:St):Prop:=retOK0 rv r st cs (applyL (lkR (retL σ rv) r ++ lkT st σ.m cs) σ)
def kRet (rv:List RV)(r:AV)(st:Bool)(cs:List AV):Exit→St→Prop
 | .ret,σ=>retOK rv r st cs σ
 | .normal,σ=>retOK rv r st cs σ
 | .exit _,_=>False
 | .goto _,_=>False
 | .panic _,_=>False
 | .outgrown,_=>False
def leFB:Option Blk→Nat→List AV→List (List AV)→Prop
 | some (.buf t z es),t',z',es'=>t=t'∧z=z'∧es=es'
 | _,_,_,_=>False
def leFC:Option Blk→List AV→Prop
 | some (.cells ds),cs=>leAs ds cs
 | _,_=>False
def leX0 (m:Nat→Option Blk)(x y:AV):Prop:=match y,x with
 | .fr _ t z es,.vw k _ _ _=>leFB (m k) t z es
 | .fr _ _ _ es,.nil=>es= []
 | .fr _ _ _ _,_=>False
 | .fp _ cs,.ptr k 0=>leFC (m k) cs
 | .fp _ _,_=>False
 | y,x=>leA x y
def leXs (m:Nat→Option Blk):List AV→List AV→Prop
 | [],[]=>True
 | x::xs,y::ys=>leX0 m x y∧leXs m xs ys
 | _,_=>False
def leX1 (m:Nat→Option Blk)(x y:AV):Prop:=match x,y with
 | .agg xs,.agg ys=>leXs m xs ys
 | x,y=>leX0 m x y
def leXV (m:Nat→Option Blk):List AV→List AV→Prop
 | [],[]=>True
 | x::xs,y::ys=>leX1 m x y∧leXV m xs ys
 | _,_=>False
def resX (m:Nat→Option Blk):List AV→AV→Prop
 | [v],r=>leX1 m v r
 | vs,.tup ys=>leXV m vs ys
 | _,_=>False
def pq0 (x y:AV):List (Nat×Option Nat):=match y,x with
 | .fr j _ _ _,.vw k _ _ _=>[(j,some k)]
 | .fr j _ _ _,_=>[(j,none)]
 | .fp j _,.ptr k _=>[(j,some k)]
 | .fp j _,_=>[(j,none)]
 | _,_=>[]
def pqL:List AV→List AV→List (Nat×Option Nat)
 | x::xs,y::ys=>pq0 x y ++ pqL xs ys
 | _,_=>[]
def pq1 (x y:AV):List (Nat×Option Nat):=match x,y with
 | .agg xs,.agg ys=>pqL xs ys
 | x,y=>pq0 x y
def pqV:List AV→List AV→List (Nat×Option Nat)
 | x::xs,y::ys=>pq1 x y ++ pqV xs ys
 | _,_=>[]
def pqR:List AV→AV→List (Nat×Option Nat)
 | [v],r=>pq1 v r
 | vs,.tup ys=>pqV vs ys
 | _,_=>[]
def pqK:List (Nat×Option Nat)→List Nat
 | []=>[]
 | (_,some k)::l=>k::pqK l
 | (_,none)::l=>pqK l
def wfRes:List AV→AV→Bool
 | [_],r=>wfX1 r
 | _,r=>wfX2 r
def resXO (m:Nat→Option Blk)(r:AV):Option (List AV)→Prop
 | some vs=>resX m vs r∧(nodupN (pqK (pqR vs r)) && ((pqK (pqR vs r)).all (λk=>decide (64≤k)) && (idsOK (frs2 r) && wfRes vs r))) =true
 | none=>False
def resXT (st:Bool)(cs:List AV):Option Blk→Prop
 | some (.cells ds)=>st=false∨leAs ds cs
 | _=>st=false
def retX0 (rv:List RV)(r:AV)(st:Bool)(cs:List AV)(σ:St):Prop:=resXO σ.m r (retL σ rv)∧resXT st cs (σ.m 0)
def retX (rv:List RV)(r:AV)(st:Bool)(cs:List AV)(σ:St):Prop:=retX0 rv r st cs (applyL (lkR (retL σ rv) r ++ lkT st σ.m cs) σ)
def kRetX {ι:Type}(rv:List RV)(st:Bool)(g:ι→Prop×AV×List AV):Exit→St→Prop
 | .ret,σ=>∃ i,(g i).1∧retX rv (g i).2.1 st (g i).2.2 σ
 | .normal,σ=>∃ i,(g i).1∧retX rv (g i).2.1 st (g i).2.2 σ
 | .exit _,_=>False
 | .goto _,_=>False
 | .panic _,_=>False
 | .outgrown,_=>False
def lkG (m:Nat→Option Blk)(b:List (Nat×Blk)):List Lk:=lkM (lookM b) m b
def retG0 (rv:List RV)(r:AV)(b:List (Nat×Blk))(σ:St):Prop:=(match retL σ rv with
 | some vs=>resV vs r
 | none=>False)∧leM σ.m b
def retG (rv:List RV)(r:AV)(b:List (Nat×Blk))(σ:St):Prop:=retG0 rv r b (applyL (lkR (retL σ rv) r ++ lkG σ.m b) σ)
def kRetG {ι:Type}(rv:List RV)(g:ι→Prop×AV×List (Nat×Blk)):Exit→St→Prop
 | .ret,σ=>∃ i,(g i).1∧retG rv (g i).2.1 (g i).2.2 σ
 | .normal,σ=>∃ i,(g i).1∧retG rv (g i).2.1 (g i).2.2 σ
 | .exit _,_=>False
 | .goto _,_=>False
 | .panic _,_=>False
 | .outgrown,_=>False
def initS (xs:List AV):Nat→AV:=λk=>xs.getD k .junk
def initM (st:Bool)(cs:List AV):Nat→Option Blk:=match st with
 | false=>λ_=>none
 | true=>updM (λ_=>none) 0 (some (.cells cs))
end Go.Ev
namespace Go.Ev
open Go Go.RowKit
def th0:Nat→Value:=λ_=> .nilIface
def cellAt (es:List (List AV))(i j:Nat):Option AV:=(es[i]?).bind λe=>e[j]?
inductive Rep (Z:Nat→Prop) (w:World):(Nat→Value)→AV→Value→Prop
 | int (θ:Nat→Value) (k:IntKind) (n:Int):Rep Z w θ (.int k n) (.int k n)
 | bool (θ:Nat→Value) (b:Bool):Rep Z w θ (.bool b) (.bool b)
 | str (θ:Nat→Value) (s:List UInt8):Rep Z w θ (.str s) (.string ⟨s.toArray⟩)
 | agg (θ:Nat→Value) (cs:List AV) (vs:List Value) (hl:vs.length=cs.length) (ha:∀ c∈cs,c.atom=true) (h1:∀ v∈vs,v.oneCell'=true)
  (h:∀ (i:Nat) (c:AV) (v:Value),cs[i]? =some c→vs[i]? =some v→Rep Z w θ c v):Rep Z w θ (.agg cs) (.agg vs.toArray)
 | tup (θ:Nat→Value) (cs:List AV) (vs:List Value) (hl:vs.length=cs.length) (ha:∀ c∈cs,c.lev1=true)
  (h:∀ (i:Nat) (c:AV) (v:Value),cs[i]? =some c→vs[i]? =some v→Rep Z w θ c v):Rep Z w θ (.tup cs) (.tuple vs.toArray)
 | lst (θ:Nat→Value) (z:List AV) (es:List (List AV)) (a:Option Addr) (cap:Nat) (f:Nat→Nat→Value)
  (hc:es.length≤cap) (hm:cap≤maxLen) (hz:∀ e∈es,e.length=z.length) (hat:∀ e∈es,∀ c∈e,c.atom=true)
  (hmem:es≠ []→∃ b o,a=some ⟨b,o,none⟩∧Z b∧∀ (i j:Nat) (c:AV),cellAt es i j=some c→w.cell? ⟨b,o+(i * z.length+j),none⟩ =some (f i j))
  (h1:∀ (i j:Nat) (c:AV),cellAt es i j=some c→(f i j).oneCell'=true)
  (h:∀ (i j:Nat) (c:AV),cellAt es i j=some c→Rep Z w th0 c (f i j)):Rep Z w θ (.lst z es) (.slice a es.length cap)
 | ep (θ:Nat→Value) (z:List AV) (es:List (List AV)) (i off b o:Nat) (f:Nat→Nat→Value)
  (hi:i < es.length) (hz:∀ e∈es,e.length=z.length) (hat:∀ e∈es,∀ c∈e,c.atom=true) (hb:Z b)
  (hmem:∀ (i j:Nat) (c:AV),cellAt es i j=some c→w.cell? ⟨b,o+(i * z.length+j),none⟩ =some (f i j))
  (h1:∀ (i j:Nat) (c:AV),cellAt es i j=some c→(f i j).oneCell'=true)
  (h:∀ (i j:Nat) (c:AV),cellAt es i j=some c→Rep Z w th0 c (f i j)):Rep Z w θ (.ep z es i off) (.pointer (some ⟨b,o+(i * z.length+off),none⟩))
 | ptr (θ:Nat→Value) (r off b:Nat) (h:θ r= .pointer (some ⟨b,0,none⟩)):Rep Z w θ (.ptr r off) (.pointer (some ⟨b,off,none⟩))
 | vw (θ:Nat→Value) (r x y z:Nat) (a:Option Addr) (n c:Nat) (h:θ r= .slice a n c):Rep Z w θ (.vw r x y z) (.slice a n c)
 | ap (θ:Nat→Value) (r x y z:Nat) (v:Value) (h:θ r=v) (h0:v≠ .nilIface) (h1:v.oneCell'=true):Rep Z w θ (.ap r x y z) v
 | bp (θ:Nat→Value) (r sz i off b o n c:Nat) (h:θ r= .slice (some ⟨b,o,none⟩) n c):Rep Z w θ (.bp r sz i off) (.pointer (some ⟨b,o+(i * sz+off),none⟩))
 | sv (θ:Nat→Value) (r sz lo hi:Nat) (a:Option Addr) (n c:Nat) (a':Option Addr) (c':Nat) (h:θ r= .slice a n c) (h1:lo≤hi) (h2:hi≤n)
  (h3:lo < hi→∃ g,a=some ⟨g,0,none⟩∧a'=some ⟨g,lo * sz,none⟩) (h4:hi - lo≤c') (h5:c'≤maxLen):Rep Z w θ (.sv r sz lo hi) (.slice a' (hi - lo) c')
 | nb (θ:Nat→Value) (e b:Bool) (h:b=true→e=true):Rep Z w θ (.nb e) (.bool b)
 | fn (θ:Nat→Value) (f:Nat):Rep Z w θ (.fn f) (.func (.func f) #[] #[])
 | nil (θ:Nat→Value):Rep Z w θ .nil (.slice none 0 0)
 | junk (θ:Nat→Value) (v:Value):Rep Z w θ .junk v
def Glb (Z:Nat→Prop)(w:World):Prop:=Z 0∧∃ T s,w.heap[0]? =some (.cells #[.int .u8 0,.int .u8 2,.int .u8 4,.int .u8 7,.int .u8 9,.int .u8 11] T s)
structure Goes (Z:Nat→Prop)(w:World)(Z':Nat→Prop)(w':World):Prop where
 sub:∀ b,Z b→Z' b
 same:∀ b,Z b→w'.heap[b]? =w.heap[b]?
theorem Goes.refl (Z:Nat→Prop)(w:World):Goes Z w Z w:=⟨λ_ h=>h,λ_ _=>rfl⟩
theorem Goes.trans {Z Z' Z'':Nat→Prop} {w w' w'':World}(h:Goes Z w Z' w')(k:Goes Z' w' Z'' w''):Goes Z w Z'' w'':=
 ⟨λb hb=>k.sub b (h.sub b hb),λb hb=>(k.same b (h.sub b hb)).trans (h.same b hb)⟩
theorem Goes.glb {Z Z':Nat→Prop} {w w':World}(h:Goes Z w Z' w')(g:Glb Z w):Glb Z' w':=by
 obtain ⟨h0,T,s,h1⟩:=g
 exact ⟨h.1 _ h0,T,s,(h.2 _ h0).trans h1⟩
theorem Goes.cell {Z Z':Nat→Prop} {w w':World}(h:Goes Z w Z' w') {b o:Nat}(hb:Z b):w'.cell? ⟨b,o,none⟩ =w.cell? ⟨b,o,none⟩:=
 World.cell?_of_block (w:=w) (a:=⟨b,o,none⟩) (h.same b hb)
theorem Rep.step {Z Z':Nat→Prop} {w w':World}(g:Goes Z w Z' w') {θ:Nat→Value} {x:AV} {v:Value}(h:Rep Z w θ x v):Rep Z' w' θ x v:=by
 induction h with
 | int θ k n=>exact .int θ k n
 | bool θ b=>exact .bool θ b
 | str θ s=>exact .str θ s
 | agg θ cs vs hl ha h1 h ih=>exact .agg θ cs vs hl ha h1 ih
 | tup θ cs vs hl ha h ih=>exact .tup θ cs vs hl ha ih
 | lst θ z es a cap f hc hm hz hat hmem h1 h ih=>
   refine .lst θ z es a cap f hc hm hz hat (λhne=>?_) h1 ih
   obtain ⟨b,o,ha,hb,hcell⟩:=hmem hne
   exact ⟨b,o,ha,g.sub b hb,λi j c hi=>(g.cell hb).trans (hcell i j c hi)⟩
 | ep θ z es i off b o f hi hz hat hb hmem h1 h ih=>
   exact .ep θ z es i off b o f hi hz hat (g.sub b hb) (λi j c hi=>(g.cell hb).trans (hmem i j c hi)) h1 ih
 | ptr θ r off b h=>exact .ptr θ r off b h
 | vw θ r x y z a n c h=>exact .vw θ r x y z a n c h
 | ap θ r x y z v h h0 h1=>exact .ap θ r x y z v h h0 h1
 | bp θ r sz i off b o n c h=>exact .bp θ r sz i off b o n c h
 | sv θ r sz lo hi a n c a' c' h h1 h2 h3 h4 h5=>exact .sv θ r sz lo hi a n c a' c' h h1 h2 h3 h4 h5
 | nb θ e b h=>exact .nb θ e b h
 | fn θ f=>exact .fn θ f
 | nil θ=>exact .nil θ
 | junk θ v=>exact .junk θ v
theorem Rep.oneCell {Z:Nat→Prop} {w:World} {θ:Nat→Value} {x:AV} {v:Value}(h:Rep Z w θ x v)(ha:x.atom=true)(hj:x≠ .junk):v.oneCell'=true:=by
 cases h<;>first | rfl | assumption | (simp [AV.atom] at ha; done) | exact absurd rfl hj
theorem Rep.th_clean0 {Z:Nat→Prop} {w:World} {θ:Nat→Value} {x:AV} {v:Value}(h:Rep Z w θ x v)(hx:x.clean0=true)(θ':Nat→Value):Rep Z w θ' x v:=by
 cases h with
 | int=>exact .int _ _ _
 | bool=>exact .bool _ _
 | str=>exact .str _ _
 | agg=>simp [AV.clean0] at hx
 | tup=>simp [AV.clean0] at hx
 | lst _ z es a cap f hc hm hz hat hmem h1 h=>exact .lst _ _ _ _ _ f hc hm hz hat hmem h1 h
 | ep _ z es i off b o f hi hz hat hb hmem h1 h=>exact .ep _ _ _ _ _ _ _ f hi hz hat hb hmem h1 h
 | ptr=>simp [AV.clean0] at hx
 | vw=>simp [AV.clean0] at hx
 | ap=>simp [AV.clean0] at hx
 | bp=>simp [AV.clean0] at hx
 | sv=>simp [AV.clean0] at hx
 | nb=>simp [AV.clean0] at hx
 | fn=>exact .fn _ _
 | nil=>exact .nil _
 | junk=>simp [AV.clean0] at hx
theorem Rep.th_clean1 {Z:Nat→Prop} {w:World} {θ:Nat→Value} {x:AV} {v:Value}(h:Rep Z w θ x v)(hx:x.clean1=true)(θ':Nat→Value):Rep Z w θ' x v:=by
 cases x with
 | agg cs=>
   cases h with
   | agg _ _ vs hl ha h1 h=>
     simp only [AV.clean1,List.all_eq_true] at hx
     exact .agg θ' cs vs hl ha h1 λi c v hc hv=>(h i c v hc hv).th_clean0 (hx c (List.mem_of_getElem? hc)) θ'
 | _=>exact h.th_clean0 hx θ'
theorem Rep.th_clean2 {Z:Nat→Prop} {w:World} {θ:Nat→Value} {x:AV} {v:Value}(h:Rep Z w θ x v)(hx:x.clean2=true)(θ':Nat→Value):Rep Z w θ' x v:=by
 cases x with
 | tup cs=>
   cases h with
   | tup _ _ vs hl ha h=>
     simp only [AV.clean2,List.all_eq_true] at hx
     exact .tup θ' cs vs hl ha λi c v hc hv=>(h i c v hc hv).th_clean1 (hx c (List.mem_of_getElem? hc)) θ'
 | _=>exact h.th_clean1 hx θ'
theorem Rep.kill0 {Z:Nat→Prop} {w:World} {θ:Nat→Value} {x:AV} {v:Value}(h:Rep Z w θ x v)(hx:x.atom=true)(r:Nat) {θ':Nat→Value}(ht:∀ k,k≠r→θ' k=θ k):
 Rep Z w θ' (Ev.kill0 r x) v:=by
 cases h with
 | int=>exact .int _ _ _
 | bool=>exact .bool _ _
 | str=>exact .str _ _
 | agg=>simp [AV.atom] at hx
 | tup=>simp [AV.atom] at hx
 | lst _ z es a cap f hc hm hz hat hmem h1 h=>exact .lst _ _ _ _ _ f hc hm hz hat hmem h1 h
 | ep _ z es i off b o f hi hz hat hb hmem h1 h=>exact .ep _ _ _ _ _ _ _ f hi hz hat hb hmem h1 h
 | ptr _ r' off b h=>
   simp only [Ev.kill0]
   split
   · exact .junk _ _
   · rename_i hne; exact .ptr _ _ _ _ ((ht r' hne).trans h)
 | vw _ r' x y z a n c h=>
   simp only [Ev.kill0]
   split
   · exact .junk _ _
   · rename_i hne; exact .vw _ _ _ _ _ _ _ _ ((ht r' hne).trans h)
 | ap _ r' x y z v h h0 h1=>
   simp only [Ev.kill0]
   split
   · exact .junk _ _
   · rename_i hne; exact .ap _ _ _ _ _ _ ((ht r' hne).trans h) h0 h1
 | bp _ r' sz i off b o n c h=>
   simp only [Ev.kill0]
   split
   · exact .junk _ _
   · rename_i hne; exact .bp _ _ _ _ _ _ _ _ _ ((ht r' hne).trans h)
 | sv _ r' sz lo hi a n c a' c' h h1 h2 h3 h4 h5=>
   simp only [Ev.kill0]
   split
   · exact .junk _ _
   · rename_i hne; exact .sv _ _ _ _ _ a n c _ _ ((ht r' hne).trans h) h1 h2 h3 h4 h5
 | nb _ e b h=>exact .nb _ _ _ h
 | fn=>exact .fn _ _
 | nil=>exact .nil _
 | junk=>exact .junk _ _
theorem kill0_atom (r:Nat)(x:AV)(hx:x.atom=true):(kill0 r x).atom=true:=by
 cases x<;>simp only [kill0]<;>(try split)<;>first | rfl | exact hx
theorem Rep.kill1 {Z:Nat→Prop} {w:World} {θ:Nat→Value} {x:AV} {v:Value}(h:Rep Z w θ x v)(hx:x.lev1=true)(r:Nat) {θ':Nat→Value}(ht:∀ k,k≠r→θ' k=θ k):
 Rep Z w θ' (Ev.kill1 r x) v:=by
 cases x with
 | agg cs=>
   cases h with
   | agg _ _ vs hl ha h1 h=>
     simp only [Ev.kill1]
     refine .agg θ' _ vs (by simpa using hl) ?_ h1 ?_
     · intro c hc
       obtain ⟨c',hc',rfl⟩:=List.mem_map.1 hc
       exact kill0_atom r c' (ha c' hc')
     · intro i c v hc hv
       rw [List.getElem?_map] at hc
       obtain ⟨c',hc',rfl⟩:=Option.map_eq_some_iff.1 hc
       exact (h i c' v hc' hv).kill0 (ha c' (List.mem_of_getElem? hc')) r ht
 | tup cs=>simp [AV.lev1] at hx
 | gd p y=>simp [AV.lev1] at hx
 | _=>exact h.kill0 rfl r ht
theorem kill1_lev1 (r:Nat)(x:AV)(hx:x.lev1=true):(kill1 r x).lev1=true:=by
 cases x<;>simp only [kill1,kill0]<;>(try split)<;>first | rfl | exact hx
theorem Rep.kill2 {Z:Nat→Prop} {w:World} {θ:Nat→Value} {x:AV} {v:Value}(h:Rep Z w θ x v)(r:Nat) {θ':Nat→Value}(ht:∀ k,k≠r→θ' k=θ k):
 Rep Z w θ' (Ev.kill2 r x) v:=by
 cases x with
 | tup cs=>
   cases h with
   | tup _ _ vs hl ha h=>
     simp only [Ev.kill2]
     refine .tup θ' _ vs (by simpa using hl) ?_ ?_
     · intro c hc
       obtain ⟨c',hc',rfl⟩:=List.mem_map.1 hc
       exact kill1_lev1 r c' (ha c' hc')
     · intro i c v hc hv
       rw [List.getElem?_map] at hc
       obtain ⟨c',hc',rfl⟩:=Option.map_eq_some_iff.1 hc
       exact (h i c' v hc' hv).kill1 (ha c' (List.mem_of_getElem? hc')) r ht
 | gd p y=>cases h
 | _=>exact h.kill1 rfl r ht
theorem Rep.agg_inv {Z:Nat→Prop} {w:World} {θ:Nat→Value} {cs:List AV} {v:Value}(h:Rep Z w θ (.agg cs) v):
 ∃ vs:List Value,v= .agg vs.toArray∧vs.length=cs.length∧(∀ c∈cs,c.atom=true)∧(∀ v∈vs,v.oneCell'=true)∧
   ∀ (i:Nat) (c:AV) (v:Value),cs[i]? =some c→vs[i]? =some v→Rep Z w θ c v:=by
 cases h with
 | agg _ _ vs hl ha h1 h=>exact ⟨vs,rfl,hl,ha,h1,h⟩
structure Cells (Z:Nat→Prop)(w:World)(θ:Nat→Value)(cs:List AV)(vs:List Value):Prop where
 len:vs.length=cs.length
 at1:∀ c∈cs,c.atom=true
 one:∀ v∈vs,v.oneCell'=true
 rep:∀ (i:Nat) (c:AV) (v:Value),cs[i]? =some c→vs[i]? =some v→Rep Z w θ c v
theorem Cells.agg {Z:Nat→Prop} {w:World} {θ:Nat→Value} {cs:List AV} {vs:List Value}(h:Cells Z w θ cs vs):Rep Z w θ (.agg cs) (.agg vs.toArray):=
 .agg θ cs vs h.len h.at1 h.one h.rep
theorem Rep.cells {Z:Nat→Prop} {w:World} {θ:Nat→Value} {cs:List AV} {v:Value}(h:Rep Z w θ (.agg cs) v):∃ vs:List Value,v= .agg vs.toArray∧Cells Z w θ cs vs:=by
 obtain ⟨vs,rfl,a,b,c,d⟩:=h.agg_inv
 exact ⟨vs,rfl,a,b,c,d⟩
theorem Cells.step {Z Z':Nat→Prop} {w w':World}(g:Goes Z w Z' w') {θ:Nat→Value} {cs:List AV} {vs:List Value}(h:Cells Z w θ cs vs):Cells Z' w' θ cs vs:=
 ⟨h.len,h.at1,h.one,λi c v hc hv=>(h.rep i c v hc hv).step g⟩
theorem Cells.get {Z:Nat→Prop} {w:World} {θ:Nat→Value} {cs:List AV} {vs:List Value}(h:Cells Z w θ cs vs) {i:Nat} {c:AV}(hc:cs[i]? =some c):∃ v,vs[i]? =some v∧Rep Z w θ c v:=by
 have hi:i < vs.length:=by rw [h.len]; exact (List.getElem?_eq_some_iff.1 hc).1
 exact ⟨vs[i],List.getElem?_eq_getElem hi,h.rep i c _ hc (List.getElem?_eq_getElem hi)⟩
theorem Cells.kill {Z:Nat→Prop} {w:World} {θ θ':Nat→Value} {cs:List AV} {vs:List Value}(h:Cells Z w θ cs vs)(r:Nat)(ht:∀ k,k≠r→θ' k=θ k):Cells Z w θ' (cs.map (kill0 r)) vs:=by
 refine ⟨by simpa using h.len,?_,h.one,?_⟩
 · intro c hc
   obtain ⟨c',hc',rfl⟩:=List.mem_map.1 hc
   exact kill0_atom r c' (h.at1 c' hc')
 · intro i c v hc hv
   rw [List.getElem?_map] at hc
   obtain ⟨c',hc',rfl⟩:=Option.map_eq_some_iff.1 hc
   exact (h.rep i c' v hc' hv).kill0 (h.at1 c' (List.mem_of_getElem? hc')) r ht
theorem Cells.take {Z:Nat→Prop} {w:World} {θ:Nat→Value} {cs:List AV} {vs:List Value}(h:Cells Z w θ cs vs)(n:Nat):Cells Z w θ (cs.take n) (vs.take n):=by
 refine ⟨by simp [h.len],λc hc=>h.at1 c (List.mem_of_mem_take hc),λv hv=>h.one v (List.mem_of_mem_take hv),λi c v hc hv=>?_⟩
 rw [List.getElem?_take] at hc hv
 split at hc<;>simp_all
 exact h.rep i c v hc hv
theorem Cells.drop {Z:Nat→Prop} {w:World} {θ:Nat→Value} {cs:List AV} {vs:List Value}(h:Cells Z w θ cs vs)(n:Nat):Cells Z w θ (cs.drop n) (vs.drop n):=by
 refine ⟨by simp [h.len],λc hc=>h.at1 c (List.mem_of_mem_drop hc),λv hv=>h.one v (List.mem_of_mem_drop hv),λi c v hc hv=>?_⟩
 rw [List.getElem?_drop] at hc hv
 exact h.rep _ c v hc hv
theorem Cells.append {Z:Nat→Prop} {w:World} {θ:Nat→Value} {cs ds:List AV} {vs us:List Value}(h:Cells Z w θ cs vs)(k:Cells Z w θ ds us):Cells Z w θ (cs ++ ds) (vs ++ us):=by
 refine ⟨by simp [h.len,k.len],?_,?_,λi c v hc hv=>?_⟩
 · intro c hc; rcases List.mem_append.1 hc with hc | hc
   · exact h.at1 c hc
   · exact k.at1 c hc
 · intro c hc; rcases List.mem_append.1 hc with hc | hc
   · exact h.one c hc
   · exact k.one c hc
 · by_cases hi:i < cs.length
   · rw [List.getElem?_append_left hi] at hc
     rw [List.getElem?_append_left (by rw [h.len]; exact hi)] at hv
     exact h.rep i c v hc hv
   · rw [List.getElem?_append_right (by omega)] at hc
     rw [List.getElem?_append_right (by rw [h.len]; omega),h.len] at hv
     exact k.rep _ c v hc hv
theorem Cells.nil (Z:Nat→Prop)(w:World)(θ:Nat→Value):Cells Z w θ [] []:=⟨rfl,by simp,by simp,by simp⟩
theorem Cells.one' {Z:Nat→Prop} {w:World} {θ:Nat→Value} {c:AV} {v:Value}(h:Rep Z w θ c v)(ha:c.atom=true)(h1:v.oneCell'=true):Cells Z w θ [c] [v]:=by
 refine ⟨rfl,by simpa using ha,by simpa using h1,λi c' v' hc hv=>?_⟩
 cases i with
 | zero=>simp at hc hv; subst hc; subst hv; exact h
 | succ i=>simp at hc
theorem Cells.th_clean {Z:Nat→Prop} {w:World} {θ:Nat→Value} {cs:List AV} {vs:List Value}(h:Cells Z w θ cs vs)(hx:cs.all AV.clean0=true)(θ':Nat→Value):Cells Z w θ' cs vs:=
 ⟨h.len,h.at1,h.one,λi c v hc hv=>(h.rep i c v hc hv).th_clean0 (List.all_eq_true.1 hx c (List.mem_of_getElem? hc)) θ'⟩
theorem Qw0 {Z:Nat→Prop} {w:World} {θ:Nat→Value} {n:Nat} {x:AV} {cs:List AV} {v:Value}(hx:cellsOfAV n x=some cs)(h:Rep Z w θ x v):
 cs.length=n∧∃ vs:List Value,v.cells=vs.toArray∧Cells Z w θ cs vs:=by
 cases h with
 | agg _ cs' vs hl ha h1 h=>
   simp only [cellsOfAV] at hx
   split at hx<;>simp at hx
   subst hx
   exact ⟨by assumption,vs,rfl,hl,ha,h1,h⟩
 | tup=>simp [cellsOfAV] at hx
 | junk=>simp [cellsOfAV] at hx
 | int=>simp only [cellsOfAV] at hx; split at hx<;>simp at hx; subst hx; exact ⟨by simp [*],[_],rfl,.one' (.int _ _ _) rfl rfl⟩
 | bool=>simp only [cellsOfAV] at hx; split at hx<;>simp at hx; subst hx; exact ⟨by simp [*],[_],rfl,.one' (.bool _ _) rfl rfl⟩
 | str=>simp only [cellsOfAV] at hx; split at hx<;>simp at hx; subst hx; exact ⟨by simp [*],[_],rfl,.one' (.str _ _) rfl rfl⟩
 | lst _ z es a cap f hc hm hz hat hmem h1 h=>simp only [cellsOfAV] at hx; split at hx<;>simp at hx; subst hx; exact ⟨by simp [*],[_],rfl,.one' (.lst _ _ _ _ _ f hc hm hz hat hmem h1 h) rfl rfl⟩
 | ep _ z es i off b o f hi hz hat hb hmem h1 h=>simp only [cellsOfAV] at hx; split at hx<;>simp at hx; subst hx; exact ⟨by simp [*],[_],rfl,.one' (.ep _ _ _ _ _ _ _ f hi hz hat hb hmem h1 h) rfl rfl⟩
 | ptr _ r off b h=>simp only [cellsOfAV] at hx; split at hx<;>simp at hx; subst hx; exact ⟨by simp [*],[_],rfl,.one' (.ptr _ _ _ _ h) rfl rfl⟩
 | vw _ r x y z a n c h=>simp only [cellsOfAV] at hx; split at hx<;>simp at hx; subst hx; exact ⟨by simp [*],[_],rfl,.one' (.vw _ _ _ _ _ _ _ _ h) rfl rfl⟩
 | ap _ r x y z v h h0 h1=>
   simp only [cellsOfAV] at hx; split at hx<;>simp at hx; subst hx
   exact ⟨by simp [*],[v],by cases v<;>first | rfl | simp [Value.oneCell'] at h1,.one' (.ap _ _ _ _ _ _ h h0 h1) rfl h1⟩
 | bp _ r sz i off b o n c h=>simp only [cellsOfAV] at hx; split at hx<;>simp at hx; subst hx; exact ⟨by simp [*],[_],rfl,.one' (.bp _ _ _ _ _ _ _ _ _ h) rfl rfl⟩
 | sv _ r sz lo hi a n c a' c' h h1 h2 h3 h4 h5=>simp only [cellsOfAV] at hx; split at hx<;>simp at hx; subst hx; exact ⟨by simp [*],[_],rfl,.one' (.sv _ _ _ _ _ a n c _ _ h h1 h2 h3 h4 h5) rfl rfl⟩
 | nb _ e b h=>simp only [cellsOfAV] at hx; split at hx<;>simp at hx; subst hx; exact ⟨by simp [*],[_],rfl,.one' (.nb _ _ _ h) rfl rfl⟩
 | fn=>simp only [cellsOfAV] at hx; split at hx<;>simp at hx; subst hx; exact ⟨by simp [*],[_],rfl,.one' (.fn _ _) rfl rfl⟩
 | nil=>simp only [cellsOfAV] at hx; split at hx<;>simp at hx; subst hx; exact ⟨by simp [*],[_],rfl,.one' (.nil _) rfl rfl⟩
theorem Zg0:∀ (vs:List AV)(cs:List AV)(off:Nat),off+vs.length≤cs.length→setCells cs off vs=cs.take off ++ vs ++ cs.drop (off+vs.length)
 | [],cs,off,_=>by simp [setCells]
 | v ::vs,cs,off,h=>by
   simp only [List.length_cons] at h
   rw [setCells,Zg0 vs (cs.set off v) (off+1) (by simp; omega)]
   apply List.ext_getElem?
   intro j
   simp only [List.getElem?_append,List.getElem?_take,List.getElem?_drop,List.getElem?_set,List.length_append,List.length_take,List.length_set,List.length_cons]
   have e1:min (off+1) cs.length=off+1:=by omega
   have e2:min off cs.length=off:=by omega
   rw [e1,e2]
   by_cases h1:j < off
   · have:¬ off=j:=by omega
     simp [h1,this,show j < off+1+vs.length by omega,show j < off+1 by omega,show j < off+(vs.length+1) by omega]
   · by_cases h2:j=off
     · subst h2
       simp [show j < j+1+vs.length by omega,show j < j+(vs.length+1) by omega,show j < cs.length by omega]
     · by_cases h3:j < off+1+vs.length
       · simp [h1,h3,show ¬ j < off+1 by omega,show j < off+(vs.length+1) by omega]
         rw [show j - off=(j - (off+1))+1 by omega,List.getElem?_cons_succ]
       · simp [h3,show ¬ j < off+(vs.length+1) by omega]
         have:¬ off=off+1+vs.length+(j - (off+1+vs.length)):=by omega
         simp [this]
         congr 1
         omega
theorem Cells.set {Z:Nat→Prop} {w:World} {θ:Nat→Value} {cs ds:List AV} {vs us:List Value}(h:Cells Z w θ cs vs)(k:Cells Z w θ ds us) {off:Nat}(ho:off+ds.length≤cs.length):
 Cells Z w θ (setCells cs off ds) (vs.take off ++ us ++ vs.drop (off+us.length)):=by
 rw [Zg0 ds cs off ho,k.len]
 exact ((h.take off).append k).append (h.drop _)
theorem Zl0 (vs:List AV)(cs:List AV)(off:Nat):(setCells cs off vs).length=cs.length:=by
 induction vs generalizing cs off with
 | nil=>rfl
 | cons v vs ih=>simp [setCells,ih]
end Go.Ev
namespace Go.Ev
open Go Go.RowKit
theorem beq_dec {α:Type} [BEq α] [LawfulBEq α] [DecidableEq α] (a b:α):(a == b) =decide (a=b):=by
 rw [Bool.eq_iff_iff]; simp
theorem Zd0:∀ (s1 s2:List Nat)(xs ys:List AV)(b:Bool),eqCells (s1 ++ s2) xs ys=some b→
 ∃ b1 b2,eqCells s1 (xs.take s1.length) (ys.take s1.length) =some b1∧eqCells s2 (xs.drop s1.length) (ys.drop s1.length) =some b2∧b=(b1 && b2)
 | [],s2,xs,ys,b,h=>⟨true,b,by simp [eqCells],by simpa using h,by simp⟩
 | k ::s1,s2,xs,ys,b,h=>by
   rw [List.cons_append] at h
   unfold eqCells at h
   split at h
   · exfalso; simp_all
   · rename_i sh k1 a xs' k2 c ys' h0
     simp only [List.cons.injEq] at h0
     obtain ⟨rfl,rfl⟩:=h0
     split at h
     · rename_i hk
       simp only [Option.map_eq_some_iff] at h
       obtain ⟨b',hb',rfl⟩:=h
       obtain ⟨b1,b2,e1,e2,rfl⟩:=Zd0 s1 s2 xs' ys' b' hb'
       exact ⟨_,b2,by simp [eqCells,hk,e1]; rfl,by simpa using e2,by simp [Bool.and_assoc]⟩
     · cases h
   · rename_i sh a xs' c ys' h0
     simp only [List.cons.injEq] at h0
     obtain ⟨rfl,rfl⟩:=h0
     simp only [Option.map_eq_some_iff] at h
     obtain ⟨b',hb',rfl⟩:=h
     obtain ⟨b1,b2,e1,e2,rfl⟩:=Zd0 s1 s2 xs' ys' b' hb'
     exact ⟨_,b2,by simp [eqCells,e1]; rfl,by simpa using e2,by simp [Bool.and_assoc]⟩
   · rename_i sh a xs' c ys' h0
     simp only [List.cons.injEq] at h0
     obtain ⟨rfl,rfl⟩:=h0
     simp only [Option.map_eq_some_iff] at h
     obtain ⟨b',hb',rfl⟩:=h
     obtain ⟨b1,b2,e1,e2,rfl⟩:=Zd0 s1 s2 xs' ys' b' hb'
     exact ⟨_,b2,by simp [eqCells,e1]; rfl,by simpa using e2,by simp [Bool.and_assoc]⟩
   · cases h
theorem eqCells_len:∀ (s:List Nat)(xs ys:List AV)(b:Bool),eqCells s xs ys=some b→xs.length=s.length∧ys.length=s.length:=by
 intro s
 induction s with
 | nil=>
   intro xs ys b h
   unfold eqCells at h
   split at h
   · simp
   all_goals first | (rename_i h0; cases h0; done) | cases h
   all_goals (rename_i h0 _; simp at h0)
 | cons k s ih=>
   intro xs ys b h
   unfold eqCells at h
   split at h
   · exfalso; simp_all
   · rename_i sh k1 a xs' k2 c ys' h0
     simp only [List.cons.injEq] at h0
     obtain ⟨rfl,rfl⟩:=h0
     split at h
     · simp only [Option.map_eq_some_iff] at h
       obtain ⟨b',hb',rfl⟩:=h
       have:=ih xs' ys' b' hb'
       simp [this.1,this.2]
     · cases h
   · rename_i sh a xs' c ys' h0
     simp only [List.cons.injEq] at h0
     obtain ⟨rfl,rfl⟩:=h0
     simp only [Option.map_eq_some_iff] at h
     obtain ⟨b',hb',rfl⟩:=h
     have:=ih xs' ys' b' hb'
     simp [this.1,this.2]
   · rename_i sh a xs' c ys' h0
     simp only [List.cons.injEq] at h0
     obtain ⟨rfl,rfl⟩:=h0
     simp only [Option.map_eq_some_iff] at h
     obtain ⟨b',hb',rfl⟩:=h
     have:=ih xs' ys' b' hb'
     simp [this.1,this.2]
   · cases h
section
variable {P:Program} {Z:Nat→Prop} {w:World} {θ:Nat→Value}
theorem run_eq_one {t:TypeId} {s:Nat}(hu:(P.underlying t=some .bool∧s=1)∨(∃ k,P.underlying t=some (.int k)∧s=0)∨(P.underlying t=some .string∧s=2))(D:Nat)
 {xs ys:List AV} {vs us:List Value} (hx:Cells Z w θ xs vs) (hy:Cells Z w θ ys us) {b:Bool} (he:eqCells [s] xs ys=some b):
 ∃ u v,vs= [u]∧us= [v]∧(Op.equalIn (D+1) t u v).run P w= .ok b w:=by
 have hl:=eqCells_len _ _ _ _ he
 match xs,ys,hl with
 | [x],[y],_=>
   have lv:vs.length=1:=hx.len
   have lu:us.length=1:=hy.len
   match vs,us,lv,lu with
   | [u],[v],_,_=>
     have rx:=hx.rep 0 x u rfl rfl
     have ry:=hy.rep 0 y v rfl rfl
     refine ⟨u,v,rfl,rfl,?_⟩
     rcases hu with ⟨hu,rfl⟩ | ⟨k,hu,rfl⟩ | ⟨hu,rfl⟩
     · unfold eqCells at he
       split at he<;>simp_all [eqCells]
       cases rx; cases ry
       rw [run_equalIn_bool w D t _ _ hu,he]
     · unfold eqCells at he
       split at he<;>simp_all [eqCells]
       cases rx; cases ry
       simp [Op.equalIn,run_underlying hu]
       obtain ⟨rfl,rfl⟩:=he
       simp [beq_dec]
     · unfold eqCells at he
       split at he<;>simp_all [eqCells]
       cases rx; cases ry
       rw [run_equalIn_string w D t _ _ hu]
       simp [ByteArray.toList_eq,← he,beq_dec]
def ShapeOK (P:Program)(D:Nat)(t:TypeId)(sh:List Nat):Prop:=
 ∀ (Z:Nat→Prop) (w:World) (θ:Nat→Value) (xs ys:List AV) (vs us:List Value) (b:Bool),Cells Z w θ xs vs→Cells Z w θ ys us→eqCells sh xs ys=some b→
   (aggP P t=true→(Op.equalIn D t (.agg vs.toArray) (.agg us.toArray)).run P w= .ok b w)∧
   (aggP P t=false→∃ u v,vs= [u]∧us= [v]∧(Op.equalIn D t u v).run P w= .ok b w)
theorem Zj0 {t:TypeId} {d:TypeDesc}(h:P.underlying t=some d)(w:World):(isAgg t).run P w= .ok (aggP P t) w:=by
 unfold isAgg aggP
 rw [h]
 cases d<;>simp [run_underlying h]
theorem und_of_shape {d:Nat} {t:TypeId} {sh:List Nat}(h:shapeOf P d t=some sh):∃ u,P.underlying t=some u:=by
 cases d with
 | zero=>simp [shapeOf] at h
 | succ d=>
   unfold shapeOf at h
   cases hu:P.underlying t with
   | none=>simp [hu] at h
   | some u=>exact ⟨u,rfl⟩
theorem run_part_eq {D:Nat} {t:TypeId} {s:List Nat}(hs:ShapeOK P D t s) {i:TypeInfo}(hi:P.info? t=some i)(hn:i.size=s.length) {u:TypeDesc}(hu:P.underlying t=some u)
 {xs ys:List AV} {vs us:List Value} (hx:Cells Z w θ xs vs) (hy:Cells Z w θ ys us) {off:Nat} {b:Bool} (he:eqCells s ((xs.drop off).take s.length) ((ys.drop off).take s.length) =some b):
 ∃ x y,(part t vs.toArray off).run P w= .ok x w∧(part t us.toArray off).run P w= .ok y w∧(Op.equalIn D t x y).run P w= .ok b w:=by
 have h:=hs Z w θ _ _ _ _ b ((hx.drop off).take s.length) ((hy.drop off).take s.length) he
 have hsz:P.cellsOf t=s.length:=by simp [Program.cellsOf,hi,hn]
 cases ha:aggP P t with
 | true=>
   refine ⟨.agg (vs.toArray.extract off (off+s.length)),.agg (us.toArray.extract off (off+s.length)),?_,?_,?_⟩
   · simp [part,Zj0 hu,ha,run_sizeOf w hi,hsz]
   · simp [part,Zj0 hu,ha,run_sizeOf w hi,hsz]
   · have:=h.1 ha
     have e1:vs.toArray.extract off (off+s.length) =((vs.drop off).take s.length).toArray:=by simp [List.extract]
     have e2:us.toArray.extract off (off+s.length) =((us.drop off).take s.length).toArray:=by simp [List.extract]
     rw [e1,e2]; exact this
 | false=>
   obtain ⟨x,y,e1,e2,e3⟩:=h.2 ha
   have k1:vs[off]? =some x:=by
    have:=congrArg (·[0]?) e1
    simp [List.getElem?_take,List.getElem?_drop] at this
    exact this.2
   have k2:us[off]? =some y:=by
    have:=congrArg (·[0]?) e2
    simp [List.getElem?_take,List.getElem?_drop] at this
    exact this.2
   refine ⟨x,y,?_,?_,e3⟩
   · simp [part,Zj0 hu,ha,k1]
   · simp [part,Zj0 hu,ha,k2]
theorem shape_both (P:Program):∀ (d:Nat),
 (∀ t sh,shapeOf P d t=some sh→∀ D,d≤D→ShapeOK P D t sh)∧
 (∀ fs off sh,shapeFields P d fs off=some sh→∀ D,d≤D→∀ (Z:Nat→Prop) (w:World) (θ:Nat→Value) (xs ys:List AV) (vs us:List Value) (b:Bool),
  Cells Z w θ xs vs→Cells Z w θ ys us→eqCells sh (xs.drop off) (ys.drop off) =some b→(Op.eqFields D vs.toArray us.toArray fs).run P w= .ok b w)
 | 0 =>by
   refine ⟨λt sh h=>by simp [shapeOf] at h,λfs off sh h D _ Z w θ xs ys vs us b _ _ he=>?_⟩
   cases fs with
   | nil=>
     simp [shapeFields] at h; subst h
     have:=eqCells_len _ _ _ _ he
     unfold eqCells at he
     split at he<;>simp_all [Op.eqFields]
   | cons f fs=>simp [shapeFields] at h
 | d + 1 => by
   obtain ⟨ihA,ihF⟩:=shape_both P d
   constructor
   · intro t sh h D hD
     obtain ⟨D,rfl⟩:∃ D',D=D'+1:=⟨D - 1,by omega⟩
     unfold shapeOf at h
     split at h
     · rename_i hu
       simp at h; subst h
       intro Z w θ xs ys vs us b hx hy he
       refine ⟨λha=>by simp [aggP,hu] at ha,λ_=>run_eq_one (.inl ⟨hu,rfl⟩) D hx hy he⟩
     · rename_i k hu
       simp at h; subst h
       intro Z w θ xs ys vs us b hx hy he
       refine ⟨λha=>by simp [aggP,hu] at ha,λ_=>run_eq_one (.inr (.inl ⟨k,hu,rfl⟩)) D hx hy he⟩
     · rename_i hu
       simp at h; subst h
       intro Z w θ xs ys vs us b hx hy he
       refine ⟨λha=>by simp [aggP,hu] at ha,λ_=>run_eq_one (.inr (.inr ⟨hu,rfl⟩)) D hx hy he⟩
     · rename_i fs hu
       split at h
       · cases h
       · rename_i hst
         intro Z w θ xs ys vs us b hx hy he
         refine ⟨λ_=>?_,λha=>by simp [aggP,hu] at ha⟩
         have hf:P.fieldsOf t=fs:=by simp [Program.fieldsOf,hu]
         rw [run_equalIn_struct w D t _ _ (by rw [hf]; exact hu) (by simpa using hst),hf]
         exact ihF fs.toList 0 sh h D (by omega) Z w θ xs ys vs us b hx hy (by simpa using he)
     · rename_i n e hu
       split at h
       · rename_i s i hs hi
         split at h
         · rename_i hsz
           simp at h; subst h
           intro Z w θ xs ys vs us b hx hy he
           refine ⟨λ_=>?_,λha=>by simp [aggP,hu] at ha⟩
           obtain ⟨u,hue⟩:=und_of_shape hs
           have hc:P.cellsOf e=s.length:=by simp [Program.cellsOf,hi,hsz]
           rw [run_equalIn_array w D _ _ hu hi,hc,List.range_eq_range']
           have key:∀ (n i0:Nat) (b:Bool),eqCells (List.replicate n s).flatten (xs.drop (i0 * s.length)) (ys.drop (i0 * s.length)) =some b→
            (Op.eqItems D e s.length vs.toArray us.toArray (List.range' i0 n)).run P w= .ok b w:=by
            intro n
            induction n with
            | zero=>
              intro i0 b he
              simp at he
              unfold eqCells at he
              split at he<;>simp_all [Op.eqItems]
            | succ n ih=>
              intro i0 b he
              rw [List.replicate_succ,List.flatten_cons] at he
              obtain ⟨b1,b2,e1,e2,rfl⟩:=Zd0 _ _ _ _ _ he
              obtain ⟨x,y,p1,p2,p3⟩:=run_part_eq (ihA e s hs D (by omega)) hi hsz hue hx hy e1
              have e2':=ih (i0+1) b2 (by
               rw [List.drop_drop,List.drop_drop] at e2
               have:(i0+1) * s.length=i0 * s.length+s.length:=by rw [Nat.add_mul]; omega
               rw [this]; exact e2)
              rw [List.range'_succ]
              simp only [Op.eqItems,Sem.run_bind,p1,p2,p3,Result.andThen_ok]
              cases b1<;>simp [e2']
           exact key n 0 b (by simpa using he)
         · cases h
       · cases h
     · cases h
   · intro fs off sh h D hD Z w θ xs ys vs us b hx hy he
     cases fs with
     | nil=>
       simp [shapeFields] at h; subst h
       unfold eqCells at he
       split at he<;>simp_all [Op.eqFields]
     | cons f fs=>
       unfold shapeFields at h
       split at h
       · cases h
       · rename_i hno
         split at h
         · rename_i s i hs hi
           split at h
           · rename_i hsz
             simp only [Option.map_eq_some_iff] at h
             obtain ⟨sh',hsh',rfl⟩:=h
             have hname:f.name≠ "_":=λe=>hno (.inl e)
             have hoff:f.offset=off:=Decidable.byContradiction λe=>hno (.inr e)
             obtain ⟨u,hue⟩:=und_of_shape hs
             obtain ⟨b1,b2,e1,e2,rfl⟩:=Zd0 _ _ _ _ _ he
             obtain ⟨x,y,p1,p2,p3⟩:=run_part_eq (ihA f.type s hs D (by omega)) hi hsz hue hx hy e1
             have e2':=ihF fs (off+s.length) sh' hsh' D (by omega) Z w θ xs ys vs us b2 hx hy (by simpa [List.drop_drop] using e2)
             simp only [Op.eqFields,ne_eq,hname,not_false_eq_true,if_true,hoff,Sem.run_bind,p1,p2,p3,Result.andThen_ok]
             cases b1<;>simp [e2']
           · cases h
         · cases h
theorem run_eqa {t:TypeId} {sh:List Nat} {d:Nat}(hs:shapeOf P d t=some sh)(hd:d≤10000)(ha:aggP P t=true)(hg:P.eqGuardType P.depth t=false) {neg:Bool} {x y r:AV} {vx vy:Value}
 (he:eqaR neg sh x y=some r) (hx:Rep Z w θ x vx) (hy:Rep Z w θ y vy) (ox oy:Operand):
 ∃ v,Rep Z w θ r v∧Sem.run P (do eqGuard (match neg with | true=> .neq | false=> .eql) t ox oy vx vy; binOp (match neg with | true=> .neq | false=> .eql) t vx vy) w= .ok v w:=by
 cases x with
 | agg xs=>
   cases y with
   | agg ys=>
     obtain ⟨vs,rfl,hcx⟩:=hx.cells
     obtain ⟨us,rfl,hcy⟩:=hy.cells
     simp only [eqaR] at he
     split at he
     · rename_i b hb
       have hb':=((shape_both P d).1 t sh hs 10000 hd Z w θ xs ys vs us b hcx hcy hb).1 ha
       cases neg with
       | true=>
         simp at he; subst he
         refine ⟨_,.bool θ _,?_⟩
         simp only [Sem.run_bind,run_eqGuard_agg w _ t ox oy _ _ hg,Result.andThen_ok,run_neq_struct,hb']
       | false=>
         simp at he; subst he
         refine ⟨_,.bool θ _,?_⟩
         simp only [Sem.run_bind,run_eqGuard_agg w _ t ox oy _ _ hg,Result.andThen_ok,run_eql_struct,hb']
     · cases he
   | _=>simp [eqaR] at he
 | _=>simp [eqaR] at he
end
end Go.Ev
namespace Go.Ev
open Go Go.RowKit
def pathT (tm:Array Value)(p:List (Nat×Bool)):Prop:=∀ q∈p,tm[q.1]? =some (.bool q.2)
def SRep (Z:Nat→Prop)(w:World)(θ:Nat→Value)(tm:Array Value):AV→Value→Prop
 | .gd p y,v=>(pathT tm p→Rep Z w θ y v)∧(¬ pathT tm p→v=undef)
 | x,v=>Rep Z w θ x v
theorem constAV_rep {Z:Nat→Prop} {w:World} {θ:Nat→Value} {v:Value} {x:AV}(h:constAV v=some x):Rep Z w θ x v∧x.clean0=true:=by
 unfold constAV at h
 split at h<;>simp at h
 · subst h; exact ⟨.int _ _ _,rfl⟩
 · subst h; exact ⟨.bool _ _,rfl⟩
 · subst h; rename_i s; exact ⟨.str θ s.data.toList,rfl⟩
 · subst h; exact ⟨.nil _,rfl⟩
 · rename_i f first cap
   obtain ⟨⟨rfl,rfl⟩,rfl⟩:=h
   exact ⟨.fn _ _,rfl⟩
theorem Zp0 {x:AV}(h:x.clean0=true):x.atom=true:=by cases x<;>simp_all [AV.clean0,AV.atom]
theorem clean0_ne {x:AV}(h:x.clean0=true):x≠ .junk:=by rintro rfl; simp [AV.clean0] at h
theorem Qq0 {Z:Nat→Prop} {w:World} {θ:Nat→Value}:∀ {vs:List Value} {xs:List AV},constAVs vs=some xs→Cells Z w θ xs vs∧xs.all AV.clean0=true
 | [],xs,h=>by simp [constAVs] at h; subst h; exact ⟨.nil _ _ _,rfl⟩
 | v ::vs,xs,h=>by
   unfold constAVs at h
   split at h
   · rename_i a as ha has
     simp at h; subst h
     obtain ⟨h1,h2⟩:=constAV_rep (Z:=Z) (w:=w) (θ:=θ) ha
     obtain ⟨h3,h4⟩:=Qq0 (Z:=Z) (w:=w) (θ:=θ) has
     refine ⟨?_,by simp only [List.all_cons,h2,h4,Bool.and_self]⟩
     exact Cells.append (Cells.one' h1 (Zp0 h2) (h1.oneCell (Zp0 h2) (clean0_ne h2))) h3
   · cases h
section
variable {P:Program} {Z:Nat→Prop} {w:World} {θ:Nat→Value} {a:Act} {σ:St} {p:List (Nat×Bool)}
theorem gv_rep {tm:Array Value}(hp:pathT tm p) {x y:AV} {v:Value}(h:SRep Z w θ tm x v)(hg:gv p x=some y):Rep Z w θ y v:=by
 cases x with
 | gd q z=>
   simp only [gv] at hg
   split at hg<;>simp at hg
   rename_i hq
   subst hg
   refine h.1 λe he=>hp e ?_
   have:=List.all_eq_true.1 hq e he
   simpa using this
 | _=>simp only [gv,sI] at hg; subst hg; exact h
theorem av_rep (hs:∀ k,SRep Z w θ a.tmps (σ.s k) (a.tmps.getD k undef))(hp:pathT a.tmps p) {x:Operand} {x':A}(hc:compA x=some x') {y:AV}(h:av σ p x'=some y):Rep Z w θ y (a.eval x):=by
 cases x with
 | tmp t=>
   simp [compA] at hc; subst hc
   exact gv_rep hp (hs t) h
 | const v=>
   simp only [compA,Option.map_eq_some_iff] at hc
   obtain ⟨z,hz,rfl⟩:=hc
   have hr:Rep Z w θ z (a.eval (.const v)):=by
    rw [Option.or_eq_some_iff] at hz
    rcases hz with hz | ⟨_,hz⟩
    · exact (constAV_rep (Z:=Z) (w:=w) (θ:=θ) hz).1
    · unfold idle at hz
      split at hz<;>simp at hz
      · subst hz; exact .junk _ _
      · subst hz; exact .junk _ _
   refine gv_rep (tm:=a.tmps) hp ?_ h
   simp only [ar]
   cases z<;>first | exact hr | cases hr
 | global g=>simp [compA] at hc
 | func f=>
   simp [compA] at hc; subst hc
   simp [av,ar,gv] at h; subst h
   exact .fn _ _
structure Reps (Z:Nat→Prop)(w:World)(θ:Nat→Value)(xs:List AV)(vs:List Value):Prop where
 len:vs.length=xs.length
 rep:∀ (i:Nat) (c:AV) (v:Value),xs[i]? =some c→vs[i]? =some v→Rep Z w θ c v
theorem Zf0 (hs:∀ k,SRep Z w θ a.tmps (σ.s k) (a.tmps.getD k undef))(hp:pathT a.tmps p):∀ {xs:List Operand} {xs':List A},compAs xs=some xs'→∀ {ys:List AV},avs σ p xs'=some ys→Reps Z w θ ys (xs.map a.eval)
 | [],xs',hc,ys,h=>by
   simp [compAs] at hc; subst hc
   simp [avs] at h; subst h
   exact ⟨rfl,by simp⟩
 | x::xs,xs',hc,ys,h=>by
   unfold compAs at hc
   split at hc<;>simp at hc
   subst hc
   rename_i b bs hb hbs
   unfold avs at h
   split at h<;>simp at h
   subst h
   rename_i v vs hv hvs
   have ih:=Zf0 hs hp hbs hvs
   refine ⟨by simp [ih.len],λi c u hi hu=>?_⟩
   cases i with
   | zero=>simp at hi hu; subst hi; subst hu; exact av_rep hs hp hb hv
   | succ i=>simp at hi; exact ih.rep i c u hi (by simpa using hu)
def Calm (P:Program)(Z:Nat→Prop)(w:World)(θ:Nat→Value)(a:Act)(o:Oper)(r:Res):Prop:=
 r.ups= []∧r.new=none∧(∀ q∈r.post,q)∧∃ v,(execOp a.eval o).run P w= .ok (.value v) w∧Rep Z w θ r.val v
theorem Calm.q {o:Oper} {x:AV} {r:Res}(hr:Res.q x=some r) {v:Value}(h:(execOp a.eval o).run P w= .ok (.value v) w)(hv:Rep Z w θ x v):Calm P Z w θ a o r:=by
 simp [Res.q] at hr; subst hr
 exact ⟨rfl,rfl,by simp,v,h,hv⟩
theorem Calm.qp {o:Oper} {x:AV} {r:Res} {q:Prop}(hr:Res.qp q x=some r) {v:Value}(h:(execOp a.eval o).run P w= .ok (.value v) w)(hv:Rep Z w θ x v):Calm P Z w θ a o r:=by
 simp [Res.qp] at hr; subst hr
 exact ⟨rfl,rfl,by simp,v,h,hv⟩
theorem Qe0 {x:Option AV} {f:AV→Option Res} {r:Res}(h:bind1 x f=some r):∃ y,x=some y∧f y=some r:=by
 cases x with
 | none=>cases h
 | some y=>exact ⟨y,rfl,h⟩
theorem Qd0 {x y:Option AV} {f:AV→AV→Option Res} {r:Res}(h:bind2 x y f=some r):∃ u v,x=some u∧y=some v∧f u v=some r:=by
 cases x with
 | none=>cases h
 | some u=>cases y with
   | none=>cases h
   | some v=>exact ⟨u,v,rfl,rfl,h⟩
theorem toR_some {x:Option AV} {r:Res}(h:toR x=some r):∃ y,x=some y∧Res.q y=some r:=by
 cases x with
 | none=>cases h
 | some y=>exact ⟨y,rfl,h⟩
theorem getD_bool {tm:Array Value} {k:Nat} {b:Bool}(h:tm.getD k undef= .bool b):tm[k]? =some (.bool b):=by
 rw [Array.getD_eq_getD_getElem?] at h
 cases hk:tm[k]? with
 | none=>rw [hk] at h; simp [undef] at h
 | some v=>rw [hk] at h; simp at h; rw [h]
theorem pathT_app {tm:Array Value}(hp:pathT tm p) {k:Nat} {b:Bool}(h:tm[k]? =some (.bool b)):pathT tm (p ++ [(k,b)]):=by
 intro q hq
 rcases List.mem_append.1 hq with hq | hq
 · exact hp q hq
 · simp at hq; subst hq; exact h
theorem pickV_some {vc x y:AV} {r:Res}(h:pickV vc x y=some r):∃ c b d,vc= .bool c∧x= .bool b∧y= .bool d∧Res.q (.bool (bif c then b else d)) =some r:=by
 unfold pickV at h
 split at h
 · exact ⟨_,_,_,rfl,rfl,rfl,h⟩
 · cases h
variable (hs:∀ k,SRep Z w θ a.tmps (σ.s k) (a.tmps.getD k undef))(hp:pathT a.tmps p)
include hs hp
theorem calm_mov {o:Oper} {x:Operand}(ho:o.op= .move x∨o.op= .assign x) {x':A}(hc:compA x=some x') {r:Res}(he:bind1 (av σ p x') (un1 (.mov x')) =some r):Calm P Z w θ a o r:=by
 obtain ⟨y,hy,h⟩:=Qe0 he
 simp only [un1] at h
 exact .q h (v:=a.eval x) (by rcases ho with ho | ho<;>simp [execOp,ho]) (av_rep hs hp hc hy)
theorem calm_not {o:Oper} {t:TypeId} {x:Operand}(ho:o.op= .unOp .not t x) {x':A}(hc:compA x=some x') {r:Res}(he:bind1 (av σ p x') (un1 (.not x')) =some r):Calm P Z w θ a o r:=by
 obtain ⟨y,hy,h⟩:=Qe0 he
 have hr:=av_rep hs hp hc hy
 cases y<;>simp [un1] at h
 generalize hv:a.eval x=v at hr
 cases hr
 exact .q h (v:= .bool _) (by simp [execOp,ho,hv,Op.unary]) (.bool _ _)
theorem calm_neg {o:Oper} {t:TypeId} {x:Operand}(ho:o.op= .unOp .neg t x) {x':A}(hc:compA x=some x') {r:Res}(he:bind1 (av σ p x') (un1 (.neg x')) =some r):Calm P Z w θ a o r:=by
 obtain ⟨y,hy,h⟩:=Qe0 he
 have hr:=av_rep hs hp hc hy
 cases y<;>simp only [un1] at h<;>try (cases h; done)
 generalize hv:a.eval x=v at hr
 cases hr
 exact .q h (v:= .int _ _) (by simp [execOp,ho,hv,Op.unary,Op.intArith]) (.int _ _ _)
theorem calm_nilchk {o:Oper} {x:Operand}(ho:o.op= .nilCheck x) {x':A}(hc:compA x=some x') {r:Res}(he:bind1 (av σ p x') (un1 (.nilchk x')) =some r):Calm P Z w θ a o r:=by
 obtain ⟨y,hy,h⟩:=Qe0 he
 have hr:=av_rep hs hp hc hy
 cases y<;>simp only [un1] at h<;>try (cases h; done)
 · generalize hv:a.eval x=v at hr
   have hr0:=hr
   cases hr
   exact .q h (v:= .pointer _) (by simp [execOp,ho,hv]) hr0
 · generalize hv:a.eval x=v at hr
   cases hr
   rename_i b hb
   exact .q h (v:= .pointer _) (by simp [execOp,ho,hv]) (.ptr _ _ _ _ hb)
theorem calm_extract {o:Oper} {x:Operand} {i:Nat}(ho:o.op= .extract x i) {x':A}(hc:compA x=some x') {r:Res}(he:bind1 (av σ p x') (un1 (.extract i x')) =some r):Calm P Z w θ a o r:=by
 obtain ⟨y,hy,h⟩:=Qe0 he
 have hr:=av_rep hs hp hc hy
 cases y<;>simp only [un1] at h<;>try (cases h; done)
 split at h<;>try (cases h; done)
 rename_i vs c hcv
 generalize hv:a.eval x=v at hr
 cases hr with
 | tup _ _ us hl ha hh=>
   have hi:i < us.length:=by rw [hl]; exact (List.getElem?_eq_some_iff.1 hcv).1
   exact .q h (v:=us[i]) (by simp [execOp,ho,hv,Instr.extract,List.getElem?_eq_getElem hi]) (hh i c _ hcv (List.getElem?_eq_getElem hi))
theorem calm_conv {o:Oper} {x:Operand} {s d:TypeId} {u:TypeDesc} {k:IntKind}(ho:o.op= .convert s d x)(hus:P.underlying s=some u)(hud:P.underlying d=some (.int k)) {x':A}(hc:compA x=some x') {r:Res}(he:bind1 (av σ p x') (un1 (.conv k x')) =some r):Calm P Z w θ a o r:=by
 obtain ⟨y,hy,h⟩:=Qe0 he
 have hr:=av_rep hs hp hc hy
 cases y<;>simp only [un1] at h<;>try (cases h; done)
 generalize hv:a.eval x=v at hr
 cases hr
 exact .q h (by simp [execOp,ho,hv,convert,run_underlying hus,run_underlying hud,Conv.intToInt]) (.int _ _ _)
theorem calm_pick {o:Oper} {c x y:Operand}(ho:o.op= .pick c x y) {c' x' y':A}(hc:compA c=some c')(hx:compA x=some x')(hy:compA y=some y') {k:Nat}(hk:slotOf c'=some k) {r:Res}
 (he:bind1 (av σ p c') (λvc=>bind2 (av σ (p ++ [(k,true)]) x') (av σ (p ++ [(k,false)]) y') (pickV vc)) =some r):Calm P Z w θ a o r:=by
 obtain ⟨vc,hvc,h⟩:=Qe0 he
 obtain ⟨vx,vy,hvx,hvy,h2⟩:=Qd0 h
 have hrc:=av_rep hs hp hc hvc
 cases c' with
 | c _=>cases hk
 | t k'=>
   simp [slotOf] at hk; subst hk
   have hcs:c= .tmp k':=by
    cases c<;>simp [compA] at hc
    subst hc; rfl
   subst hcs
   obtain ⟨cc,bx,vy',rfl,rfl,rfl,h3⟩:=pickV_some h2
   have e1:a.tmps.getD k' undef= .bool cc:=by
    generalize hv:a.eval (.tmp k') =v at hrc
    cases hrc; exact hv
   have e2:=getD_bool e1
   have hev:a.eval (.tmp k') = .bool cc:=e1
   cases cc with
   | true=>
     have hr:=av_rep hs (pathT_app hp e2) hx hvx
     generalize hv:a.eval x=v at hr
     cases hr
     refine .q h3 (v:= .bool bx) (by simp [execOp,ho,hev,asBool,hv]) ?_
     exact .bool _ _
   | false=>
     have hr:=av_rep hs (pathT_app hp e2) hy hvy
     generalize hv:a.eval y=v at hr
     cases hr
     refine .q h3 (v:= .bool vy') (by simp [execOp,ho,hev,asBool,hv]) ?_
     exact .bool _ _
theorem calm_arith {o:Oper} {op:BinOp} {t u:TypeId} {x y:Operand}(ho:o.op= .binOp op t x y u)(hop:isArith op=true) {x' y':A}(hx:compA x=some x')(hy:compA y=some y') {r:Res}
 (he:bind2 (av σ p x') (av σ p y') (arithR op) =some r) (hpre:∀ q∈r.pre,q):Calm P Z w θ a o r:=by
 obtain ⟨vx,vy,hvx,hvy,h⟩:=Qd0 he
 have hrx:=av_rep hs hp hx hvx
 have hry:=av_rep hs hp hy hvy
 generalize ex:a.eval x=v1 at hrx
 generalize ey:a.eval y=v2 at hry
 cases hrx<;>simp only [arithR] at h<;>try (cases h; done)
 rename_i k n
 cases hry<;>simp only at h<;>try (cases h; done)
 rename_i k' m
 split at h<;>try (cases h; done)
 rename_i hk; subst hk
 cases op<;>simp only [isArith] at hop<;>try (cases hop; done)
 all_goals simp only at h
 · exact .q h (by simp [execOp,ho,ex,ey,eqGuard,binOp,Op.intArith]) (.int _ _ _)
 · exact .q h (by simp [execOp,ho,ex,ey,eqGuard,binOp,Op.intArith]) (.int _ _ _)
 · exact .q h (by simp [execOp,ho,ex,ey,eqGuard,binOp,Op.intArith]) (.int _ _ _)
 · have hb:m≠0:=by simp [Res.qp] at h; subst h; exact hpre _ (by simp)
   exact .qp h (by simp [execOp,ho,ex,ey,eqGuard,binOp,Op.intDiv,hb]) (.int _ _ _)
 · have hb:m≠0:=by simp [Res.qp] at h; subst h; exact hpre _ (by simp)
   exact .qp h (by simp [execOp,ho,ex,ey,eqGuard,binOp,Op.intDiv,hb]) (.int _ _ _)
 · exact .q h (v:= .int k (bitsI .and k n m)) (by simp [execOp,ho,ex,ey,eqGuard,binOp,Op.intBits,bitsI]) (.int _ _ _)
 · exact .q h (v:= .int k (bitsI .or k n m)) (by simp [execOp,ho,ex,ey,eqGuard,binOp,Op.intBits,bitsI]) (.int _ _ _)
 · exact .q h (v:= .int k (bitsI .xor k n m)) (by simp [execOp,ho,ex,ey,eqGuard,binOp,Op.intBits,bitsI]) (.int _ _ _)
 · exact .q h (v:= .int k (bitsI .andNot k n m)) (by simp [execOp,ho,ex,ey,eqGuard,binOp,Op.intBits,bitsI]) (.int _ _ _)
theorem calm_cmpI {o:Oper} {op:BinOp} {t u:TypeId} {x y:Operand}(ho:o.op= .binOp op t x y u)(hop:isCmp op=true) {x' y':A}(hx:compA x=some x')(hy:compA y=some y') {r:Res}
 (he:bind2 (av σ p x') (av σ p y') (λv w=>toR (cmpR op 0 v w)) =some r):Calm P Z w θ a o r:=by
 obtain ⟨vx,vy,hvx,hvy,h⟩:=Qd0 he
 obtain ⟨z,hz,h4⟩:=toR_some h
 have hrx:=av_rep hs hp hx hvx
 have hry:=av_rep hs hp hy hvy
 generalize ex:a.eval x=v1 at hrx
 generalize ey:a.eval y=v2 at hry
 cases vx<;>try (cases hz; done)
 cases vy<;>try (cases hz; done)
 cases hrx; cases hry
 rename_i k n k' m
 simp only [cmpR] at hz
 split at hz<;>try (cases hz; done)
 rename_i hk; subst hk
 cases op<;>simp only [isCmp] at hop<;>try (cases hop; done)
 all_goals (simp only [sI] at hz; subst hz)
 · exact .q h4 (v:= .bool (n == m)) (by simp [execOp,ho,ex,ey,eqGuard,binOp,Op.intCmp]) (by rw [beq_dec]; exact .bool _ _)
 · exact .q h4 (v:= .bool (n != m)) (by simp [execOp,ho,ex,ey,eqGuard,binOp,Op.intCmp]) (by rw [show (n != m) = !decide (n=m) by rw [bne,beq_dec]]; exact .bool _ _)
 all_goals exact .q h4 (v:= .bool (decide _)) (by simp [execOp,ho,ex,ey,eqGuard,binOp,Op.intCmp]) (.bool _ _)
theorem calm_cmpB {o:Oper} {op:BinOp} {t u:TypeId} {x y:Operand}(ho:o.op= .binOp op t x y u)(hop:isEq op=true)(hu:P.underlying t=some .bool) {x' y':A}(hx:compA x=some x')(hy:compA y=some y') {r:Res}
 (he:bind2 (av σ p x') (av σ p y') (λv w=>toR (cmpR op 1 v w)) =some r):Calm P Z w θ a o r:=by
 obtain ⟨vx,vy,hvx,hvy,h⟩:=Qd0 he
 obtain ⟨z,hz,h4⟩:=toR_some h
 have hrx:=av_rep hs hp hx hvx
 have hry:=av_rep hs hp hy hvy
 generalize ex:a.eval x=v1 at hrx
 generalize ey:a.eval y=v2 at hry
 cases vx<;>try (cases hz; done)
 cases vy<;>try (cases hz; done)
 cases hrx; cases hry
 rename_i n m
 simp only [cmpR] at hz
 cases op<;>simp only [isEq] at hop<;>try (cases hop; done)
 all_goals (simp only [sI] at hz; subst hz)
 · exact .q h4 (v:= .bool (n == m)) (by simp [execOp,ho,ex,ey,eqGuard,binOp,run_equal_bool w t n m hu]) (.bool _ _)
 · exact .q h4 (v:= .bool (!(n == m))) (by simp [execOp,ho,ex,ey,eqGuard,binOp,run_equal_bool w t n m hu]) (.bool _ _)
theorem calm_cmpS {o:Oper} {op:BinOp} {t u:TypeId} {x y:Operand}(ho:o.op= .binOp op t x y u)(hop:isEq op=true) {x' y':A}(hx:compA x=some x')(hy:compA y=some y') {r:Res}
 (he:bind2 (av σ p x') (av σ p y') (λv w=>toR (cmpR op 2 v w)) =some r):Calm P Z w θ a o r:=by
 obtain ⟨vx,vy,hvx,hvy,h⟩:=Qd0 he
 obtain ⟨z,hz,h4⟩:=toR_some h
 have hrx:=av_rep hs hp hx hvx
 have hry:=av_rep hs hp hy hvy
 generalize ex:a.eval x=v1 at hrx
 generalize ey:a.eval y=v2 at hry
 cases vx<;>try (cases hz; done)
 cases vy<;>try (cases hz; done)
 cases hrx; cases hry
 rename_i n m
 simp only [cmpR] at hz
 cases op<;>simp only [isEq] at hop<;>try (cases hop; done)
 all_goals (simp only [sI] at hz; subst hz)
 · exact .q h4 (v:= .bool (n == m)) (by simp [execOp,ho,ex,ey,eqGuard,binOp,Op.stringOp,ByteArray.toList_eq]) (by rw [beq_dec]; exact .bool _ _)
 · exact .q h4 (v:= .bool (!(n == m))) (by simp [execOp,ho,ex,ey,eqGuard,binOp,Op.stringOp,ByteArray.toList_eq]) (by rw [beq_dec]; exact .bool _ _)
theorem calm_eqa {o:Oper} {op:BinOp} {t u:TypeId} {x y:Operand}(ho:o.op= .binOp op t x y u)(hop:isEq op=true) {sh:List Nat} {d:Nat}(hsh:shapeOf P d t=some sh)(hd:d≤10000)(ha:aggP P t=true)(hg:P.eqGuardType P.depth t=false)
 {x' y':A} (hx:compA x=some x') (hy:compA y=some y') {neg:Bool} (hn:neg=isNeq op) {r:Res}
 (he:bind2 (av σ p x') (av σ p y') (λv w=>toR (eqaR neg sh v w)) =some r):Calm P Z w θ a o r:=by
 obtain ⟨vx,vy,hvx,hvy,h⟩:=Qd0 he
 obtain ⟨z,hz,h4⟩:=toR_some h
 have hrx:=av_rep hs hp hx hvx
 have hry:=av_rep hs hp hy hvy
 obtain ⟨v,hv,hrun⟩:=run_eqa hsh hd ha hg hz hrx hry x y
 cases op<;>simp only [isEq] at hop<;>try (cases hop; done)
 all_goals (simp only [isNeq] at hn; subst hn; simp only at hrun)
 all_goals exact .q h4 (v:=v) (by simp only [execOp,ho]; rw [Sem.run_bind,hrun]; rfl) hv
theorem run_len {o:Oper} {c:Call} {x:Operand}(ho:o.op= .call c)(hc1:c.callee= .builtin .len)(hc2:c.args= #[x]) {res:Value}(h:(Builtin.len_ c.argTypes o.type #[a.eval x]).run P w= .ok res w):(execOp a.eval o).run P w= .ok (.value res) w:=by
 simp [execOp,ho,resolve,hc1,hc2,invoke,builtin,h]
theorem calm_len0 {o:Oper} {c:Call} {x:Operand}(ho:o.op= .call c)(hc1:c.callee= .builtin .len)(hc2:c.args= #[x]) {t e:TypeId}(ht:c.argTypes[0]? =some t)(hu:P.underlying t=some (.slice e)) {x':A}(hx:compA x=some x') {r:Res}
 (he:bind1 (av σ p x') (lenR 0) =some r):Calm P Z w θ a o r:=by
 obtain ⟨y,hy,h⟩:=Qe0 he
 have hr:=av_rep hs hp hx hy
 have hrun:=λres=>run_len (σ:=σ) (P:=P) (w:=w) hs hp ho hc1 hc2 (res:=res)
 generalize hv:a.eval x=v at hr hrun
 cases y<;>try (cases h; done)
 · cases hr with
   | lst _ _ _ ad cap f hc hm hz hat hmem h1 hh=>
     simp only [lenR,sI] at h; subst h
     refine ⟨rfl,rfl,?_,_,hrun _ ?_,.int _ _ _⟩
     · intro q hq
       simp only [List.mem_singleton] at hq
       subst hq
       unfold maxLen at hm
       omega
     · simp [Builtin.len_,ht,run_underlying hu,goInt]
 · cases hr with
   | sv _ _ _ _ _ ad n c a' c' hθ h1 h2 h3 h4 h5=>
     simp only [lenR,sI] at h; subst h
     refine ⟨rfl,rfl,?_,_,hrun _ ?_,.int _ _ _⟩
     · intro q hq
       simp only [List.mem_singleton] at hq
       subst hq
       unfold maxLen at h5
       omega
     · simp [Builtin.len_,ht,run_underlying hu,goInt]
 · cases hr
   simp only [lenR,Res.q,sI] at h; subst h
   exact ⟨rfl,rfl,by simp,_,hrun (.int .i64 0) (by simp [Builtin.len_,ht,run_underlying hu,goInt]),.int _ _ _⟩
theorem calm_len1 {o:Oper} {c:Call} {x:Operand}(ho:o.op= .call c)(hc1:c.callee= .builtin .len)(hc2:c.args= #[x]) {t:TypeId}(ht:c.argTypes[0]? =some t)(hu:P.underlying t=some .string) {x':A}(hx:compA x=some x') {r:Res}
 (he:bind1 (av σ p x') (lenR 1) =some r):Calm P Z w θ a o r:=by
 obtain ⟨y,hy,h⟩:=Qe0 he
 have hr:=av_rep hs hp hx hy
 have hrun:=λres=>run_len (σ:=σ) (P:=P) (w:=w) hs hp ho hc1 hc2 (res:=res)
 generalize hv:a.eval x=v at hr hrun
 cases y<;>try (cases h; done)
 cases hr
 rename_i s
 simp only [lenR,Res.q,sI] at h; subst h
 exact ⟨rfl,rfl,by simp,_,hrun (.int .i64 s.length) (by simp only [Builtin.len_,ht,List.getElem?_toArray,List.getElem?_cons_zero,Sem.run_bind,run_underlying hu,Result.andThen_ok]; rfl),.int _ _ _⟩
theorem run_minmax (mx:Bool):∀ (xs:List AV)(vs:List Value)(x r:AV)(v:Value),Reps Z w θ xs vs→Rep Z w θ x v→minmaxL mx x xs=some r→
 ∃ u,(vs.foldlM (match mx with | true=>Builtin.max2 | false=>Builtin.min2) v).run P w= .ok u w∧Rep Z w θ r u
 | [],vs,x,r,v,hvs,hx,h=>by
   have:vs= []:=List.eq_nil_of_length_eq_zero hvs.len
   subst this
   simp [minmaxL] at h; subst h
   exact ⟨v,by simp,hx⟩
 | y ::xs,vs,x,r,v,hvs,hx,h=>by
   cases vs with
   | nil=>have:=hvs.len; simp at this
   | cons u vs=>
     have hy:=hvs.rep 0 y u rfl rfl
     have hrest:Reps Z w θ xs vs:=⟨by have:=hvs.len; simpa using this,λi c w' h1 h2=>hvs.rep (i+1) c w' (by simpa using h1) (by simpa using h2)⟩
     unfold minmaxL at h
     split at h<;>try (cases h; done)
     rename_i x' hx'
     cases x<;>try (cases hx'; done)
     cases y<;>try (cases hx'; done)
     cases hx; cases hy
     rename_i k n k' m
     simp only [minmaxR] at hx'
     split at hx'<;>try (cases hx'; done)
     rename_i hk; subst hk
     simp only [sI] at hx'; subst hx'
     obtain ⟨u,hu,hr⟩:=run_minmax mx xs vs _ r _ hrest (.int θ _ _) h
     refine ⟨u,?_,hr⟩
     cases mx
     · simp only [List.foldlM_cons,Sem.run_bind,Builtin.min2,Sem.run_pure,Result.andThen_ok]
       exact hu
     · simp only [List.foldlM_cons,Sem.run_bind,Builtin.max2,Sem.run_pure,Result.andThen_ok]
       exact hu
theorem calm_minmax {o:Oper} {c:Call} {mx:Bool}(ho:o.op= .call c)(hc1:c.callee= .builtin (match mx with | true=> .max | false=> .min)) {xs':List A}(hx:compAs c.args.toList=some xs') {r:Res}
 (he:(match avs σ p xs' with
  | some (.int k n::vs)=>toR (minmaxL mx (.int k n) vs)
  | _=>none) =some r):Calm P Z w θ a o r:=by
 split at he<;>try (cases he; done)
 rename_i k n vs hvs
 obtain ⟨z,hz,h4⟩:=toR_some he
 have hr:=Zf0 hs hp hx hvs
 generalize hv:c.args.toList.map a.eval=us at hr
 cases us with
 | nil=>have:=hr.len; simp at this
 | cons u us=>
   have hu:=hr.rep 0 _ u rfl rfl
   have hrest:Reps Z w θ vs us:=⟨by have:=hr.len; simpa using this,λi c w' h1 h2=>hr.rep (i+1) c w' (by simpa using h1) (by simpa using h2)⟩
   obtain ⟨v,hrun,hv'⟩:=run_minmax (σ:=σ) (P:=P) hs hp mx vs us _ z u hrest hu hz
   have hargs:(c.args.map a.eval).toList=u::us:=by simpa using hv
   refine .q h4 (v:=v) ?_ hv'
   cases mx
   · simp only [execOp,ho,resolve,hc1,invoke,builtin,Sem.run_bind,Sem.run_pure,Result.andThen_ok,Builtin.min_,hargs]
     rw [hrun]; rfl
   · simp only [execOp,ho,resolve,hc1,invoke,builtin,Sem.run_bind,Sem.run_pure,Result.andThen_ok,Builtin.max_,hargs]
     rw [hrun]; rfl
end
end Go.Ev
namespace Go.Ev
open Go Go.RowKit
theorem Rep.of_th0 {Z:Nat→Prop} {w:World} {t:Nat→Value} {x:AV} {v:Value}(h:Rep Z w t x v)(ht:t=th0)(θ:Nat→Value):Rep Z w θ x v:=by
 induction h with
 | int _ k n=>exact .int θ k n
 | bool _ b=>exact .bool θ b
 | str _ s=>exact .str θ s
 | agg _ cs vs hl ha h1 h ih=>exact .agg θ cs vs hl ha h1 λi c v hc hv=>ih i c v hc hv ht
 | tup _ cs vs hl ha h ih=>exact .tup θ cs vs hl ha λi c v hc hv=>ih i c v hc hv ht
 | lst _ z es a cap f hc hm hz hat hmem h1 h _=>exact .lst θ z es a cap f hc hm hz hat hmem h1 h
 | ep _ z es i off b o f hi hz hat hb hmem h1 h _=>exact .ep θ z es i off b o f hi hz hat hb hmem h1 h
 | ptr _ r off b h=>subst ht; simp [th0] at h
 | vw _ r x y z a n c h=>subst ht; simp [th0] at h
 | ap _ r x y z v h h0 h1=>subst ht; exact absurd h.symm h0
 | bp _ r sz i off b o n c h=>subst ht; simp [th0] at h
 | sv _ r sz lo hi a n c a' c' h h1 h2 h3 h4 h5=>subst ht; simp [th0] at h
 | nb _ e b h=>exact .nb θ e b h
 | fn _ f=>exact .fn θ f
 | nil _=>exact .nil θ
 | junk _ v=>exact .junk θ v
def bk:Value→Option Nat
 | .pointer (some ⟨b,0,none⟩)=>some b
 | .slice (some ⟨b,_,none⟩) _ _=>some b
 | .map (some b)=>some b
 | _=>none
def QRow (w:World)(T:TypeId)(k:Nat)(v:Value)(n:Nat)(xs:List Value):Prop:=
 xs.length=n * k∧((v= .slice none 0 0∧n=0)∨∃ g o cap cur,v= .slice (some ⟨g,o,none⟩) n cap∧w.heap[g]? =some (.cells cur T (0,0))∧n≤cap∧cap≤maxLen∧o+cap * k≤cur.size∧(cur.toList.drop o).take (n * k) =xs)
def keyV:Nat→List Int→Value
 | 0,[a]=> .int .u8 a
 | _,l=> .agg (l.map λa=>Value.int .i64 a).toArray
def KeysOf (n:Nat)(ks:List (List Int))(E:List MapEntry):Prop:=
 E.map (λe=>(e.key,e.val)) =ks.reverse.map (λk=>(keyV n k,Value.bool true))∧∀ k∈ks,k.length=if n=0 then 1 else n
def BRep (Z:Nat→Prop)(w:World)(θ:Nat→Value)(r:Nat):Blk→Prop
 | .cells cs=>∃ b T vs,θ r= .pointer (some ⟨b,0,none⟩)∧w.heap[b]? =some (.cells (List.toArray vs) T (0,0))∧¬ Z b∧Cells Z w θ cs vs
 | .buf T z es=>z≠ []∧(∀ e∈es,e.length=z.length)∧∃ (xs:List Value),w.ownsRow 0 T z.length (θ r) es.length xs∧(∀ b,bk (θ r) =some b→¬ Z b)∧Cells Z w th0 es.flatten xs
 | .qb T z es=>z≠ []∧(∀ e∈es,e.length=z.length)∧∃ (xs:List Value),QRow w T z.length (θ r) es.length xs∧(∀ b,bk (θ r) =some b→¬ Z b)∧Cells Z w th0 es.flatten xs
 | .ms n ks=>∃ b E clock,θ r= .map (some b)∧w.heap[b]? =some (.map E clock)∧¬ Z b∧KeysOf n ks E.toList
 | .clo f z es i off=>∃ v,θ r= .func (.func f) #[] #[v]∧Rep Z w th0 (.ep z es i off) v
 | .dead=>False
theorem QRow.cells {w:World} {T:TypeId} {k n n' c g o:Nat} {xs:List Value}(h:QRow w T k (.slice (some ⟨g,o,none⟩) n' c) n xs):∀ j u,xs[j]? =some u→w.cell? ⟨g,o+j,none⟩ =some u:=by
 intro j u hu
 rcases h.2 with ⟨h1,_⟩ | ⟨g',o',cap,cur,h1,hgg,_,_,_,htake⟩
 · cases h1
 · simp only [Value.slice.injEq,sI,Addr.mk.injEq] at h1
   obtain ⟨⟨rfl,rfl,_⟩,rfl,rfl⟩:=h1
   rw [cell_of_row w g (o+j) cur T (0,0) hgg]
   rw [← htake,List.getElem?_take] at hu
   split at hu
   · rw [List.getElem?_drop] at hu
     simpa using hu
   · cases hu
theorem row_off {w:World} {b size n n' c g o:Nat} {T:TypeId} {xs:List Value}(h:w.ownsRow b T size (.slice (some ⟨g,o,none⟩) n' c) n xs):o=0:=by
 rcases h.2 with ⟨h1,_⟩ | ⟨g',cap,cur,h1,_⟩
 · cases h1
 · simp only [Value.slice.injEq,sI,Addr.mk.injEq] at h1
   exact h1.1.2.1
theorem Qp0 (b o n:Nat):(Addr.add ⟨b,o,none⟩ n) = ⟨b,o+n,none⟩:=by
 unfold Addr.add; split
 · rename_i h; subst h; rfl
 · rfl
section
variable {P:Program} {Z:Nat→Prop} {w:World} {θ:Nat→Value} {a:Act} {σ:St} {p:List (Nat×Bool)}
theorem sizeP_info {t:TypeId} {n:Nat}(h:sizeP P t=some n):∃ i,P.info? t=some i∧i.size=n:=by
 unfold sizeP at h
 rw [Option.map_eq_some_iff] at h
 exact h
theorem Qm0 {t:TypeId} {n:Nat}(h:sizeP P t=some n)(w:World):(sizeOf t).run P w= .ok n w:=by
 obtain ⟨i,hi,rfl⟩:=sizeP_info h
 rw [run_sizeOf w hi]
 simp [Program.cellsOf,hi]
theorem Qu0 {t:TypeId} {n:Nat}(hn:sizeP P t=some n) {u:TypeDesc}(hu:P.underlying t=some u) {b off:Nat} {us:List Value}
 (hl:us.length=n) (hc:∀ (j:Nat) (v:Value),us[j]? =some v→w.cell? ⟨b,off+j,none⟩ =some v) {res:Value}
 (hr:(aggP P t=true∧res= .agg us.toArray)∨(aggP P t=false∧us= [res])):(loadVar t ⟨b,off,none⟩).run P w= .ok res w:=by
 rcases hr with ⟨ha,rfl⟩ | ⟨ha,rfl⟩
 · have:=run_loadCells_list (P:=P) w ⟨b,off,none⟩ us (λj v hj=>by rw [Qp0]; exact hc j v hj)
   rw [hl] at this
   simp only [loadVar,Sem.run_bind,Zj0 hu,ha,Result.andThen_ok,if_true,Qm0 hn,this,Sem.run_pure]
 · have h0:=hc 0 res rfl
   simp only [Nat.add_zero] at h0
   simp only [loadVar,Sem.run_bind,Zj0 hu,ha,Result.andThen_ok,Bool.false_eq_true,if_false,run_load,h0]
theorem cells_val {cs:List AV} {vs:List Value}(h:Cells Z w θ cs vs) {ag:Bool} {n off:Nat} {x:AV}(hx:valOf ag n cs off=some x):
 ∃ us:List Value,us.length=n∧(∀ (j:Nat) (v:Value),us[j]? =some v→vs[off+j]? =some v)∧∃ res,Rep Z w θ x res∧((ag=true∧res= .agg us.toArray)∨(ag=false∧us= [res])):=by
 unfold valOf at hx
 split at hx
 · split at hx<;>simp at hx
   subst hx
   rename_i hle
   have hc:=(h.drop off).take n
   refine ⟨(vs.drop off).take n,by simp [h.len]; omega,?_,_,hc.agg,.inl ⟨rfl,rfl⟩⟩
   intro j v hj
   rw [List.getElem?_take] at hj
   split at hj<;>simp_all
 · split at hx
   · obtain ⟨v,hv,hr⟩:=h.get hx
     refine ⟨[v],rfl,?_,v,hr,.inr ⟨rfl,rfl⟩⟩
     intro j u hj
     cases j with
     | zero=>simp at hj; subst hj; simpa using hv
     | succ j=>simp at hj
   · cases hx
theorem Cells.of_th0' {cs:List AV} {vs:List Value}(h:Cells Z w th0 cs vs)(θ:Nat→Value):Cells Z w θ cs vs:=
 ⟨h.len,h.at1,h.one,λi c v hc hv=>(h.rep i c v hc hv).of_th0 rfl θ⟩
theorem flat_row {k:Nat} {z:List AV}:∀ {es:List (List AV)},(∀ e∈es,e.length=k)→∀ {i:Nat},i < es.length→(es.flatten.drop (i * k)).take k=getE z es i
 | [],_,i,hi=>by simp at hi
 | e ::es,h,i,hi=>by
   have he:e.length=k:=h e (by simp)
   cases i with
   | zero=>simp [getE,← he]
   | succ i=>
     have:=flat_row (z:=z) (λe he=>h e (List.mem_cons_of_mem _ he)) (i:=i) (by simpa using hi)
     rw [List.flatten_cons,show (i+1) * k=e.length+i * k by rw [he,Nat.add_mul]; omega,List.drop_length_add_append,this]
     simp [getE]
theorem row_cells {k:Nat} {z:List AV} {es:List (List AV)} {xs:List Value}(hz:∀ e∈es,e.length=k)(hc:Cells Z w th0 es.flatten xs) {i:Nat}(hi:i < es.length)(θ:Nat→Value):Cells Z w θ (getE z es i) ((xs.drop (i * k)).take k):=by
 have:=((hc.of_th0' θ).drop (i * k)).take k
 rw [flat_row hz hi] at this
 exact this
theorem ep_cells {z:List AV} {es:List (List AV)} {i:Nat} {f:Nat→Nat→Value}(hi:i < es.length)(hz:∀ e∈es,e.length=z.length)(hat:∀ e∈es,∀ c∈e,c.atom=true)
 (h1:∀ (i j:Nat) (c:AV),cellAt es i j=some c→(f i j).oneCell'=true) (h:∀ (i j:Nat) (c:AV),cellAt es i j=some c→Rep Z w th0 c (f i j)) (θ:Nat→Value):
 Cells Z w θ (getE z es i) ((List.range z.length).map (f i)):=by
 have hge:getE z es i=es[i]:=by simp [getE,List.getD,List.getElem?_eq_getElem hi]
 have hmem:es[i]∈es:=List.getElem_mem hi
 have hcell:∀ (j:Nat) (c:AV),es[i][j]? =some c→cellAt es i j=some c:=by
  intro j c hc
  simp [cellAt,List.getElem?_eq_getElem hi,hc]
 rw [hge]
 refine ⟨by simp [hz _ hmem],λc hc=>hat _ hmem c hc,?_,?_⟩
 · intro v hv
   obtain ⟨j,hj,rfl⟩:=List.mem_map.1 hv
   have hj':j < es[i].length:=by rw [hz _ hmem]; exact List.mem_range.1 hj
   exact h1 i j _ (hcell j _ (List.getElem?_eq_getElem hj'))
 · intro j c v hc hv
   rw [List.getElem?_map] at hv
   obtain ⟨j',hj',rfl⟩:=Option.map_eq_some_iff.1 hv
   have:j'=j:=by
    have:=List.getElem?_eq_some_iff.1 hj'
    obtain ⟨_,e⟩:=this
    simp at e; exact e.symm
   subst this
   exact (h i j' c (hcell j' c hc)).of_th0 rfl θ
variable (hs:∀ k,SRep Z w θ a.tmps (σ.s k) (a.tmps.getD k undef))(hp:pathT a.tmps p)
include hs hp
theorem calm_faddr {o:Oper} {t:TypeId} {x:Operand} {f:Nat}(ho:o.op= .fieldAddr t x f) {fs:Array Field}(hu:P.underlying t=some (.struct fs)) {fd:Field}(hf:fs[f]? =some fd) {s:Nat}(hsz:sizeP P fd.type=some s)(hs0:s≠0)
 {x':A} (hc:compA x=some x') {r:Res} (he:bind1 (av σ p x') (faddrR fd.offset) =some r):Calm P Z w θ a o r:=by
 obtain ⟨y,hy,h⟩:=Qe0 he
 have hr:=av_rep hs hp hc hy
 have hrun:∀ (b off:Nat),a.eval x= .pointer (some ⟨b,off,none⟩)→(execOp a.eval o).run P w= .ok (.value (.pointer (some ⟨b,off+fd.offset,none⟩))) w:=by
  intro b off hv
  simp [execOp,ho,hv,Instr.fieldAt,run_underlying hu,hf,Instr.sureAddr,fieldPlace,Qm0 hsz,hs0,Qp0]
 generalize hv:a.eval x=v at hr hrun
 cases y<;>try (cases h; done)
 · rename_i z es i off
   cases hr with
   | ep _ _ _ _ _ b o' f' hi hz hat hb hmem h1 hh=>
     refine .q h (hrun _ _ rfl) ?_
     rw [show o'+(i * z.length+off)+fd.offset=o'+(i * z.length+(off+fd.offset)) by omega]
     exact .ep _ _ _ _ _ _ _ f' hi hz hat hb hmem h1 hh
 · cases hr with
   | ptr _ r off b hθ=>exact .q h (hrun _ _ rfl) (.ptr _ _ _ _ hθ)
 · cases hr with
   | bp _ r sz i off b o0 n c hθ=>
     refine .q h (hrun _ _ rfl) ?_
     rw [Nat.add_assoc,Nat.add_assoc]
     exact .bp _ _ _ _ _ _ _ _ _ hθ
theorem calm_iaddrS {o:Oper} {t e:TypeId} {x i:Operand}(ho:o.op= .indexAddr t x i)(hu:P.underlying t=some (.slice e)) {sz:Nat}(hsz:sizeP P e=some sz) {zero:List AV}(hzero:zero.length=sz)
 {x' i':A} (hx:compA x=some x') (hi:compA i=some i') {r:Res} (he:bind2 (av σ p x') (av σ p i') (iaddrSR zero) =some r) (hpre:∀ q∈r.pre,q):Calm P Z w θ a o r:=by
 obtain ⟨vx,vi,hvx,hvi,h⟩:=Qd0 he
 have hrx:=av_rep hs hp hx hvx
 have hri:=av_rep hs hp hi hvi
 generalize ex:a.eval x=v1 at hrx
 generalize ei:a.eval i=v2 at hri
 cases vx<;>try (cases h; done)
 cases vi<;>try (cases h; done)
 rename_i z es k n
 simp only [iaddrSR] at h
 split at h<;>try (cases h; done)
 rename_i hz0
 simp only [sI] at h
 subst h
 have hb:0≤n∧n < (es.length:Int):=hpre _ (by simp)
 cases hri
 cases hrx with
 | lst _ _ _ ad cap f hc hm hz hat hmem h1 hh=>
   have hne:es≠ []:=by rintro rfl; simp at hb; omega
   obtain ⟨b,o',rfl,hZ,hcell⟩:=hmem hne
   refine ⟨rfl,rfl,?_,.pointer (some ⟨b,o'+(n.toNat * zero.length+0),none⟩),?_,?_⟩
   · intro q hq
     simp only [List.mem_singleton] at hq
     subst hq
     unfold maxLen at hm
     omega
   · simp [execOp,ho,ex,ei,Instr.indexAt,asIntOf,run_underlying hu,hb,Qm0 hsz,Qp0,hzero]
   · exact .ep _ _ _ _ _ _ _ f (by omega) (λe he=>(hz e he).trans hz0) hat hZ (λi j c hc=>by rw [← hz0]; exact hcell i j c hc) h1 hh
theorem calm_iaddrA {o:Oper} {t e:TypeId} {n:Nat} {x i:Operand}(ho:o.op= .indexAddr t x i)(hu:P.underlying t=some (.array n e)) {sz:Nat}(hsz:sizeP P e=some sz)
 {x' i':A} (hx:compA x=some x') (hi:compA i=some i') {r:Res} (he:bind2 (av σ p x') (av σ p i') (λv u=>iaddrAR n sz v i' u) =some r) (hpre:∀ q∈r.pre,q):Calm P Z w θ a o r:=by
 obtain ⟨vx,vi,hvx,hvi,h⟩:=Qd0 he
 have hrx:=av_rep hs hp hx hvx
 generalize ex:a.eval x=v1 at hrx
 unfold iaddrAR at h
 split at h<;>try (cases h; done)
 · rename_i r' off k j
   cases hrx
   rename_i b hθ
   have hpi:0≤j∧j < (n:Int):=by
    simp only [Res.qp,sI] at h; subst h
    exact hpre _ (by simp)
   have hei:a.eval i= .int k j:=by
    have hri:=av_rep hs hp hi (show av σ p (.c (.int k j)) =some (.int k j) from rfl)
    generalize a.eval i=v at hri
    cases hri; rfl
   exact .qp h (v:= .pointer (some ⟨b,off+j.toNat * sz,none⟩)) (by simp [execOp,ho,ex,hei,Instr.indexAt,asIntOf,run_underlying hu,Instr.sureAddr,hpi,Qm0 hsz,Qp0]) (.ptr _ _ _ _ hθ)
 · rename_i r' off d k j
   have hri:=av_rep hs hp hi hvi
   cases hrx
   rename_i b hθ
   have hpi:0≤j∧j < (n:Int):=by
    simp only [Res.qp,sI] at h; subst h
    exact hpre _ (by simp)
   have hei:a.eval i= .int k j:=by
    generalize a.eval i=v at hri
    cases hri; rfl
   have hsel:sel n j=j.toNat:=by unfold sel; rw [if_pos (by omega)]
   rw [hsel] at h
   exact .qp h (v:= .pointer (some ⟨b,off+j.toNat * sz,none⟩)) (by simp [execOp,ho,ex,hei,Instr.indexAt,asIntOf,run_underlying hu,Instr.sureAddr,hpi,Qm0 hsz,Qp0]) (.ptr _ _ _ _ hθ)
 · rename_i z es i' off k j
   have hpi:0≤j∧j < (n:Int):=by
    simp only [Res.qp,sI] at h; subst h
    exact hpre _ (by simp)
   have hei:a.eval i= .int k j:=by
    have hri:=av_rep hs hp hi (show av σ p (.c (.int k j)) =some (.int k j) from rfl)
    generalize a.eval i=v at hri
    cases hri; rfl
   cases hrx with
   | ep _ _ _ _ _ b o' f' hi hz hat hb hmem h1 hh=>
     refine .qp h (v:= .pointer (some ⟨b,o'+(i' * z.length+off)+j.toNat * sz,none⟩)) (by simp [execOp,ho,ex,hei,Instr.indexAt,asIntOf,run_underlying hu,Instr.sureAddr,hpi,Qm0 hsz,Qp0]) ?_
     rw [show o'+(i' * z.length+off)+j.toNat * sz=o'+(i' * z.length+(off+j.toNat * sz)) by omega]
     exact .ep _ _ _ _ _ _ _ f' hi hz hat hb hmem h1 hh
 · rename_i z es i' off d k j
   have hri:=av_rep hs hp hi hvi
   have hpi:0≤j∧j < (n:Int):=by
    simp only [Res.qp,sI] at h; subst h
    exact hpre _ (by simp)
   have hei:a.eval i= .int k j:=by
    generalize a.eval i=v at hri
    cases hri; rfl
   have hsel:sel n j=j.toNat:=by unfold sel; rw [if_pos (by omega)]
   rw [hsel] at h
   cases hrx with
   | ep _ _ _ _ _ b o' f' hi hz hat hb hmem h1 hh=>
     refine .qp h (v:= .pointer (some ⟨b,o'+(i' * z.length+off)+j.toNat * sz,none⟩)) (by simp [execOp,ho,ex,hei,Instr.indexAt,asIntOf,run_underlying hu,Instr.sureAddr,hpi,Qm0 hsz,Qp0]) ?_
     rw [show o'+(i' * z.length+off)+j.toNat * sz=o'+(i' * z.length+(off+j.toNat * sz)) by omega]
     exact .ep _ _ _ _ _ _ _ f' hi hz hat hb hmem h1 hh
theorem calm_load {o:Oper} {t:TypeId} {x:Operand}(ho:o.op= .load t x) {n:Nat}(hn:sizeP P t=some n) {u:TypeDesc}(hu:P.underlying t=some u) {x':A}(hc:compA x=some x') {r:Res}
 (hm:∀ r blk,σ.m r=some blk→BRep Z w θ r blk) (he:bind1 (av σ p x') (loadR σ.m n (aggP P t)) =some r) (hpre:∀ q∈r.pre,q):Calm P Z w θ a o r:=by
 obtain ⟨y,hy,h⟩:=Qe0 he
 have hr:=av_rep hs hp hc hy
 have hrun:∀ (b off:Nat) (res:Value),a.eval x= .pointer (some ⟨b,off,none⟩)→(loadVar t ⟨b,off,none⟩).run P w= .ok res w→(execOp a.eval o).run P w= .ok (.value res) w:=by
  intro b off res hv hl
  simp [execOp,ho,hv,Instr.loadAt,Instr.sureAddr,hl]
 generalize hv:a.eval x=v at hr hrun
 cases y<;>try (cases h; done)
 · rename_i z es i off
   simp only [loadR] at h
   split at h<;>try (cases h; done)
   rename_i val hval
   cases hr with
   | ep _ _ _ _ _ b o' f' hi hz hat hb hmem h1 hh=>
     have hcs:=ep_cells (Z:=Z) (w:=w) hi hz hat h1 hh θ
     obtain ⟨us,hl,hus,res,hres,hag⟩:=cells_val hcs hval
     refine .q h (hrun _ _ res rfl (Qu0 hn hu hl ?_ hag)) hres
     intro j v hj
     have hv':=hus j v hj
     rw [List.getElem?_map] at hv'
     obtain ⟨j',hj',rfl⟩:=Option.map_eq_some_iff.1 hv'
     obtain ⟨hlt,e⟩:=List.getElem?_eq_some_iff.1 hj'
     simp at e hlt
     subst e
     have hlt':off+j < (es[i]).length:=by rw [hz _ (List.getElem_mem hi)]; exact hlt
     have:=hmem i (off+j) (es[i][off+j]) (by simp [cellAt,List.getElem?_eq_getElem hi,List.getElem?_eq_getElem hlt'])
     rw [show o'+(i * z.length+off)+j=o'+(i * z.length+(off+j)) by omega]
     exact this
 · rename_i rr off
   simp only [loadR] at h
   split at h<;>try (cases h; done)
   rename_i cs hmr
   split at h<;>try (cases h; done)
   rename_i val hval
   cases hr with
   | ptr _ _ _ b hθ=>
     obtain ⟨b',T,vs,hθ',hheap,hZ,hcs⟩:=hm _ _ hmr
     rw [hθ] at hθ'
     simp at hθ'
     subst hθ'
     obtain ⟨us,hl,hus,res,hres,hag⟩:=cells_val hcs hval
     simp only [sI] at h
     subst h
     refine ⟨rfl,rfl,by simp,res,hrun _ _ res rfl (Qu0 hn hu hl ?_ hag),hres⟩
     intro j v hj
     rw [cell_of_row w b (off+j) vs.toArray T (0,0) hheap]
     simpa using hus j v hj
 · rename_i rr sz i off
   simp only [loadR] at h
   split at h<;>try (cases h; done)
   rotate_left
   · rename_i T z es hmr
     split at h<;>try (cases h; done)
     rename_i val hsz hval
     have hsz:z.length=sz:=by simpa using hsz
     subst hsz
     simp only [sI] at h
     subst h
     have hi:i < es.length:=hpre _ (by simp)
     cases hr with
     | bp _ _ _ _ _ b o0 n c hθ=>
       obtain ⟨hz0,hz,xs,hown,hnz,hcs⟩:=hm _ _ hmr
       rw [hθ] at hown
       have hrow:=row_cells (z:=z) hz hcs hi θ
       obtain ⟨us,hl,hus,res,hres,hag⟩:=cells_val hrow hval
       refine ⟨rfl,rfl,by simp,res,hrun _ _ res rfl (Qu0 hn hu hl ?_ hag),hres⟩
       intro j v hj
       have h1:=hus j v hj
       rw [List.getElem?_take] at h1
       split at h1<;>try (cases h1; done)
       rw [List.getElem?_drop] at h1
       have:=hown.cells _ v h1
       rw [show o0+(i * z.length+off)+j=o0+(i * z.length+(off+j)) by omega]
       exact this
   rename_i T z es hmr
   split at h<;>try (cases h; done)
   rename_i val hsz hval
   have hsz:z.length=sz:=by simpa using hsz
   subst hsz
   simp only [sI] at h
   subst h
   have hi:i < es.length:=hpre _ (by simp)
   cases hr with
   | bp _ _ _ _ _ b o0 n c hθ=>
     obtain ⟨hz0,hz,xs,hown,hnz,hcs⟩:=hm _ _ hmr
     rw [hθ] at hown
     obtain rfl:=row_off hown
     have hrow:=row_cells (z:=z) hz hcs hi θ
     obtain ⟨us,hl,hus,res,hres,hag⟩:=cells_val hrow hval
     refine ⟨rfl,rfl,by simp,res,hrun _ _ res rfl (Qu0 hn hu hl ?_ hag),hres⟩
     intro j v hj
     have h1:=hus j v hj
     rw [List.getElem?_take] at h1
     split at h1<;>try (cases h1; done)
     rw [List.getElem?_drop] at h1
     have:=hown.cells (g:=b) rfl _ v h1
     rw [Qp0] at this
     rw [show 0+(i * z.length+off)+j=0+(i * z.length+(off+j)) by omega]
     exact this
omit hs hp in
theorem foldl_set (vs:List Value):∀ (cs:List Value)(off:Nat),off+vs.length≤cs.length→
 (vs.toArray.zipIdx.foldl (λ(cs:Array Value) (x:Value×Nat)=>cs.setIfInBounds (off+x.2) x.1) cs.toArray) =(cs.take off ++ vs ++ cs.drop (off+vs.length)).toArray:=by
 have key:∀ (vs:List Value) (cs:List Value) (off k:Nat),off+k+vs.length≤cs.length→
  ((vs.zipIdx k).foldl (λ(cs:Array Value) (x:Value×Nat)=>cs.setIfInBounds (off+x.2) x.1) cs.toArray) =(cs.take (off+k) ++ vs ++ cs.drop (off+k+vs.length)).toArray:=by
  intro vs
  induction vs with
  | nil=>intro cs off k _; simp
  | cons v vs ih=>
    intro cs off k h
    simp only [List.length_cons] at h
    rw [List.zipIdx_cons,List.foldl_cons]
    have e:(cs.toArray.setIfInBounds (off+k) v) =(cs.set (off+k) v).toArray:=by simp
    simp only
    rw [e,ih (cs.set (off+k) v) off (k+1) (by simp; omega)]
    congr 1
    rw [show off+(k+1) =off+k+1 by omega]
    exact list_seg_step cs (off+k) v vs (by omega)
 intro cs off h
 have:=key vs cs off 0 (by omega)
 simp only [Nat.add_zero] at this
 rw [← this,← Array.foldl_toList]
 congr 1
 simp
omit hs hp in
theorem fill_step {place:Nat→Option (Nat×Nat)} {cs:List Value} {i off n:Nat} {v:Value} {vs:List Value} {rest:List (Nat×Value)}(hpl:place i=some (off,n))(hv:v.cells=vs.toArray)(hn:vs.length=n)(ho:off+n≤cs.length):
 Instr.fill place cs.toArray ((i,v)::rest) =Instr.fill place (cs.take off ++ vs ++ cs.drop (off+vs.length)).toArray rest:=by
 conv=>lhs; unfold Instr.fill
 simp only [hpl,hv,List.size_toArray,hn]
 rw [if_neg (by simp; omega)]
 rw [foldl_set vs cs off (by omega),hn]
theorem fill_parts (fs:Array Field)(place:Nat→Option (Nat×Nat))(hpl:∀ (i:Nat)(f:Field)(s:Nat),fs[i]? =some f→sizeP P f.type=some s→place i=some (f.offset,s)):
 ∀ (ps:List (Nat×Operand)) (qs:List (Nat×Nat×A)) (cs xs:List AV) (vs:List Value),compParts P fs ps=some qs→fillA σ p cs qs=some xs→Cells Z w θ cs vs→
   ∃ us,Instr.fill place vs.toArray (ps.map λx=>(x.1,a.eval x.2)) =some (List.toArray us)∧Cells Z w θ xs us
 | [],qs,cs,xs,vs,hc,hf,hcs=>by
   simp [compParts] at hc; subst hc
   simp [fillA] at hf; subst hf
   exact ⟨vs,by simp [Instr.fill],hcs⟩
 | (i,x)::ps,qs,cs,xs,vs,hc,hf,hcs=>by
   unfold compParts at hc
   split at hc<;>try (cases hc; done)
   rename_i fd x' rs hfd hx' hrs
   split at hc<;>try (cases hc; done)
   rename_i s hsz
   simp only [sI] at hc
   subst hc
   unfold fillA at hf
   split at hf<;>try (cases hf; done)
   rename_i y hy
   split at hf<;>try (cases hf; done)
   rename_i ds hds
   split at hf<;>try (cases hf; done)
   rename_i hle
   have hr:=av_rep hs hp hx' hy
   obtain ⟨hlen,us,hus,hcu⟩:=Qw0 hds hr
   have hul:us.length=s:=by rw [hcu.len,hlen]
   rw [List.map_cons,fill_step (hpl i fd s hfd hsz) hus hul (by rw [hcs.len]; exact hle)]
   exact fill_parts fs place hpl ps rs _ xs _ hrs hf (hcs.set hcu (by rw [hlen]; exact hle))
theorem fill_partsA (sz:Nat):
 ∀ (ps:List (Nat×Operand)) (qs:List (Nat×Nat×A)) (cs xs:List AV) (vs:List Value),compPartsA sz ps=some qs→fillA σ p cs qs=some xs→Cells Z w θ cs vs→
   ∃ us,Instr.fill (λi=>some (i * sz,sz)) vs.toArray (ps.map λx=>(x.1,a.eval x.2)) =some (List.toArray us)∧Cells Z w θ xs us
 | [],qs,cs,xs,vs,hc,hf,hcs=>by
   simp [compPartsA] at hc; subst hc
   simp [fillA] at hf; subst hf
   exact ⟨vs,by simp [Instr.fill],hcs⟩
 | (i,x)::ps,qs,cs,xs,vs,hc,hf,hcs=>by
   unfold compPartsA at hc
   split at hc<;>try (cases hc; done)
   rename_i x' rs hx' hrs
   simp only [sI] at hc
   subst hc
   unfold fillA at hf
   split at hf<;>try (cases hf; done)
   rename_i y hy
   split at hf<;>try (cases hf; done)
   rename_i ds hds
   split at hf<;>try (cases hf; done)
   rename_i hle
   have hr:=av_rep hs hp hx' hy
   obtain ⟨hlen,us,hus,hcu⟩:=Qw0 hds hr
   have hul:us.length=sz:=by rw [hcu.len,hlen]
   rw [List.map_cons,fill_step rfl hus hul (by rw [hcs.len]; exact hle)]
   exact fill_partsA sz ps rs _ xs _ hrs hf (hcs.set hcu (by rw [hlen]; exact hle))
omit hs hp in
theorem run_places (fs:List Field)(h:∀ f∈fs,(P.info? f.type).isSome=true):
 (fs.mapM (λf=>(do pure (f.offset,← sizeOf f.type):Sem (Nat×Nat)))).run P w= .ok (fs.map λf=>(f.offset,P.cellsOf f.type)) w:=by
 induction fs with
 | nil=>simp
 | cons f fs ih=>
   obtain ⟨i,hi⟩:=Option.isSome_iff_exists.1 (h f (by simp))
   simp only [List.mapM_cons,Sem.run_bind,run_sizeOf w hi,Result.andThen_ok,Sem.run_pure,ih (λg hg=>h g (by simp [hg])),List.map_cons]
omit hs hp in
theorem zeroP_spec {t:TypeId} {z:List AV}(h:zeroP P t=some z):∃ v,(∀ w,(zeroValue t).run P w= .ok v w)∧∃ vs,v.cells=List.toArray vs∧Cells Z w θ z vs∧z.all AV.clean0=true:=by
 unfold zeroP at h
 split at h<;>try (cases h; done)
 rename_i v hv
 rw [Option.bind_eq_some_iff] at hv
 obtain ⟨i,hi,hz⟩:=hv
 have:=Qq0 (Z:=Z) (w:=w) (θ:=θ) h
 refine ⟨v,λw=>by simp [zeroValue,run_typeInfo w hi,hz],v.cells.toList,by simp,this.1,this.2⟩
theorem calm_buildS {o:Oper} {t:TypeId} {ps:Array (Nat×Operand)}(ho:o.op= .build t ps) {fs:Array Field}(hu:P.underlying t=some (.struct fs))(hall:fs.all (λf=>(P.info? f.type).isSome) =true) {z:List AV}(hz:zeroP P t=some z)
 {qs:List (Nat×Nat×A)} (hc:compParts P fs ps.toList=some qs) {r:Res} (he:(match fillA σ p z qs with | some cs=>Res.q (.agg cs) | none=>none) =some r):Calm P Z w θ a o r:=by
 split at he<;>try (cases he; done)
 rename_i xs hxs
 obtain ⟨v,hzero,vs,hvs,hcs,hcl⟩:=zeroP_spec (Z:=Z) (w:=w) (θ:=θ) hz
 have hall':∀ f∈fs.toList,(P.info? f.type).isSome=true:=by
  intro f hf
  have:=(Array.all_eq_true_iff_forall_mem).1 hall f (by simpa using hf)
  exact this
 obtain ⟨us,hfill,hcu⟩:=fill_parts hs hp fs (λi=>((fs.toList.map λf=>(f.offset,P.cellsOf f.type)).toArray)[i]?) (by
  intro i f s hf hsz
  obtain ⟨j,hj,rfl⟩:=sizeP_info hsz
  simp [hf,Program.cellsOf,hj]) ps.toList qs z xs vs hc hxs hcs
 refine .q he (v:= .agg us.toArray) ?_ hcu.agg
 have hm:(fs.mapM (λf=>(do pure (f.offset,← sizeOf f.type):Sem (Nat×Nat)))).run P w= .ok (fs.toList.map λf=>(f.offset,P.cellsOf f.type)).toArray w:=by
  rw [Array.mapM_eq_mapM_toList,Sem.run_map,run_places fs.toList hall']
  rfl
 have hparts:(ps.map λx=>(x.1,a.eval x.2)).toList=ps.toList.map λx=>(x.1,a.eval x.2):=by simp
 simp only [execOp,ho,Instr.build,Sem.run_bind,hzero,Result.andThen_ok,run_underlying hu,hm,hvs,hparts,hfill,Sem.run_pure]
theorem calm_buildA {o:Oper} {t e:TypeId} {n:Nat} {ps:Array (Nat×Operand)}(ho:o.op= .build t ps)(hu:P.underlying t=some (.array n e)) {z:List AV}(hz:zeroP P t=some z) {sz:Nat}(hsz:sizeP P e=some sz)
 {qs:List (Nat×Nat×A)} (hc:compPartsA sz ps.toList=some qs) {r:Res} (he:(match fillA σ p z qs with | some cs=>Res.q (.agg cs) | none=>none) =some r):Calm P Z w θ a o r:=by
 split at he<;>try (cases he; done)
 rename_i xs hxs
 obtain ⟨v,hzero,vs,hvs,hcs,hcl⟩:=zeroP_spec (Z:=Z) (w:=w) (θ:=θ) hz
 obtain ⟨us,hfill,hcu⟩:=fill_partsA hs hp sz ps.toList qs z xs vs hc hxs hcs
 refine .q he (v:= .agg us.toArray) ?_ hcu.agg
 have hparts:(ps.map λx=>(x.1,a.eval x.2)).toList=ps.toList.map λx=>(x.1,a.eval x.2):=by simp
 simp only [execOp,ho,Instr.build,Sem.run_bind,hzero,Result.andThen_ok,run_underlying hu,Qm0 hsz,hvs,hparts,hfill,Sem.run_pure]
end
end Go.Ev
namespace Go.Ev
open Go Go.RowKit
structure Cx where
 w0:World
 wr:Nat→Prop
 gw:Nat→Prop
 Z0:Nat→Prop
 θ0:Nat→Value
def Cx.mine (X:Cx)(b:Nat):Prop:=X.w0.heap.size≤b∨X.gw b
def Cx.all (X:Cx)(b:Nat):Prop:=X.wr b∨X.gw b
def nob0:Nat→Prop:=λ_=>False
structure FrameBut (wr:Nat→Prop)(w w':World):Prop where
 os:w'.os=w.os
 tape:w'.tape=w.tape
 output:w'.output=w.output
 size:w.heap.size≤w'.heap.size
 block:∀ k,k < w.heap.size→¬ wr k→w'.heap[k]? =w.heap[k]?
theorem FrameBut.refl (wr:Nat→Prop)(w:World):FrameBut wr w w:=⟨rfl,rfl,rfl,Nat.le_refl _,λ_ _ _=>rfl⟩
abbrev pt (b:Nat):Value:= .pointer (some ⟨b,0,none⟩)
structure Mem (X:Cx)(Z:Nat→Prop)(w:World)(θ:Nat→Value)(m:Nat→Option Blk):Prop where
 brep:∀ r blk,m r=some blk→BRep Z w θ r blk
 disj:∀ r r' b,(m r).isSome=true→(m r').isSome=true→bk (θ r) =some b→bk (θ r') =some b→r=r'
 own:∀ r b,(m r).isSome=true→bk (θ r) =some b→X.mine b∨(r < 64∧X.wr b)
 zlt:∀ b,Z b→b < w.heap.size
 frame:FrameBut X.all X.w0 w
 zin:∀ b,X.Z0 b→Z b
 znew:∀ b,Z b→X.Z0 b∨X.mine b
 fix:∀ r,r < 64→θ r=X.θ0 r
 glb:Glb Z w
theorem Qn0 {w:World} {b:Nat} {x:Obj}(h:w.heap[b]? =some x):b < w.heap.size:=(Array.getElem?_eq_some_iff.1 h).1
theorem ownsRow_lt {w:World} {base size n:Nat} {T:TypeId} {v:Value} {xs:List Value}(h:w.ownsRow base T size v n xs):∀ b,bk v=some b→b < w.heap.size:=by
 intro b hb
 obtain ⟨_,⟨rfl,_⟩ | ⟨g,cap,cur,rfl,_,hg,_⟩⟩:=h
 · cases hb
 · simp [bk] at hb; subst hb; exact Qn0 hg
theorem ownsRow_of {w w':World} {base size n:Nat} {T:TypeId} {v:Value} {xs:List Value}(h:w.ownsRow base T size v n xs)(hb:∀ b,bk v=some b→b < w.heap.size→w'.heap[b]? =w.heap[b]?):w'.ownsRow base T size v n xs:=by
 obtain ⟨h0,h1⟩:=h
 refine ⟨h0,?_⟩
 rcases h1 with h1 | ⟨g,cap,cur,rfl,h2,hg,h3⟩
 · exact .inl h1
 · exact .inr ⟨g,cap,cur,rfl,h2,(hb g rfl (Qn0 hg)).trans hg,h3⟩
theorem qrow_lt {w:World} {k n:Nat} {T:TypeId} {v:Value} {xs:List Value}(h:QRow w T k v n xs):∀ b,bk v=some b→b < w.heap.size:=by
 intro b hb
 obtain ⟨_,⟨rfl,_⟩ | ⟨g,o,cap,cur,rfl,hg,_⟩⟩:=h
 · cases hb
 · simp [bk] at hb; subst hb; exact Qn0 hg
theorem qrow_of {w w':World} {k n:Nat} {T:TypeId} {v:Value} {xs:List Value}(h:QRow w T k v n xs)(hb:∀ b,bk v=some b→b < w.heap.size→w'.heap[b]? =w.heap[b]?):QRow w' T k v n xs:=by
 obtain ⟨h0,h1⟩:=h
 refine ⟨h0,?_⟩
 rcases h1 with h1 | ⟨g,o,cap,cur,rfl,hg,h3⟩
 · exact .inl h1
 · exact .inr ⟨g,o,cap,cur,rfl,(hb g rfl (Qn0 hg)).trans hg,h3⟩
theorem Mem.stepW {X:Cx} {Z Z':Nat→Prop} {w w':World} {θ:Nat→Value} {m m':Nat→Option Blk}(h:Mem X Z w θ m)(r0:Option Nat)
 (hz:∀ b,Z b→Z' b) (hz':∀ b,Z' b→Z b∨w.heap.size≤b) (zlt:∀ b,Z' b→b < w'.heap.size)
 (os:w'.os=w.os) (tape:w'.tape=w.tape) (output:w'.output=w.output) (size:w.heap.size≤w'.heap.size)
 (blocks:∀ k,k < w.heap.size→(∀ r,r0=some r→bk (θ r)≠some k)→w'.heap[k]? =w.heap[k]?)
 (hm:∀ r,r0≠some r→m' r=m r) (hr:∀ r,r0=some r→(m r).isSome=true∧∀ blk,m' r=some blk→BRep Z' w' θ r blk):
 Mem X Z' w' θ m'∧Goes Z w Z' w':=by
 have hZb:∀ b,Z b→∀ r,r0=some r→bk (θ r)≠some b:=by
  intro b hb r hr0 ht
  obtain ⟨hs,_⟩:=hr r hr0
  obtain ⟨blk,hblk⟩:=Option.isSome_iff_exists.1 hs
  have:=h.brep r blk hblk
  cases blk with
  | cells cs=>
    obtain ⟨b',T,vs,ht',_,hnz,_⟩:=this
    rw [ht'] at ht; simp [bk] at ht; subst ht; exact hnz hb
  | buf T z es=>
    obtain ⟨_,_,xs,_,hnz,_⟩:=this
    exact hnz b ht hb
  | qb T z es=>
    obtain ⟨_,_,xs,_,hnz,_⟩:=this
    exact hnz b ht hb
  | ms n ks=>
    obtain ⟨b',E,clock,ht',_,hnz,_⟩:=this
    rw [ht'] at ht; simp [bk] at ht; subst ht; exact hnz hb
  | clo f z es i off=>
    obtain ⟨v,ht',_⟩:=this
    rw [ht'] at ht; cases ht
  | dead=>exact this.elim
 have g:Goes Z w Z' w':=⟨hz,λb hb=>blocks b (h.zlt b hb) (hZb b hb)⟩
 have some_of:∀ r,(m' r).isSome=true→(m r).isSome=true:=by
  intro r hs
  by_cases e:r0=some r
  · exact (hr r e).1
  · rwa [hm r e] at hs
 refine ⟨⟨?_,?_,?_,zlt,?_,λb hb=>hz b (h.zin b hb),?_,h.fix,g.glb h.glb⟩,g⟩
 · intro r blk hblk
   by_cases e:r0=some r
   · exact (hr r e).2 blk hblk
   · rw [hm r e] at hblk
     have hb:=h.brep r blk hblk
     cases blk with
     | dead=>exact hb.elim
     | clo f z es i off=>
       obtain ⟨v,ht,hv⟩:=hb
       exact ⟨v,ht,hv.step g⟩
     | ms n ks=>
       obtain ⟨b,E,clock,ht,hh,hnz,hk⟩:=hb
       refine ⟨b,E,clock,ht,?_,?_,hk⟩
       · rw [blocks b (Qn0 hh) ?_]; exact hh
         intro r' hr' ht'
         have:=h.disj r r' b (by rw [hblk]; rfl) (hr r' hr').1 (by rw [ht]; rfl) ht'
         subst this
         exact e hr'
       · intro hb'
         rcases hz' b hb' with h1 | h1
         · exact hnz h1
         · have:=Qn0 hh; omega
     | qb T z es=>
       obtain ⟨hz0,hlen,xs,hrow,hnz,hcs⟩:=hb
       refine ⟨hz0,hlen,xs,?_,?_,hcs.step g⟩
       · refine qrow_of hrow λb hb' hlt=>blocks b hlt ?_
         intro r' hr' ht'
         have:=h.disj r r' b (by rw [hblk]; rfl) (hr r' hr').1 hb' ht'
         subst this
         exact e hr'
       · intro b hb' hzb
         rcases hz' b hzb with h1 | h1
         · exact hnz b hb' h1
         · have:=qrow_lt hrow b hb'; omega
     | buf T z es=>
       obtain ⟨hz0,hlen,xs,hrow,hnz,hcs⟩:=hb
       refine ⟨hz0,hlen,xs,?_,?_,hcs.step g⟩
       · refine ownsRow_of hrow λb hb' hlt=>blocks b hlt ?_
         intro r' hr' ht'
         have:=h.disj r r' b (by rw [hblk]; rfl) (hr r' hr').1 hb' ht'
         subst this
         exact e hr'
       · intro b hb' hzb
         rcases hz' b hzb with h1 | h1
         · exact hnz b hb' h1
         · have:=ownsRow_lt hrow b hb'; omega
     | cells cs=>
       obtain ⟨b,T,vs,ht,hh,hnz,hcs⟩:=hb
       refine ⟨b,T,vs,ht,?_,?_,hcs.step g⟩
       · rw [blocks b (Qn0 hh) ?_]; exact hh
         intro r' hr' ht'
         have:=h.disj r r' b (by rw [hblk]; rfl) (hr r' hr').1 (by rw [ht]; rfl) ht'
         subst this
         exact e hr'
       · intro hb'
         rcases hz' b hb' with h1 | h1
         · exact hnz h1
         · have:=Qn0 hh; omega
 · intro r r' b h1 h2 h3 h4; exact h.disj r r' b (some_of r h1) (some_of r' h2) h3 h4
 · intro r b h1 h2; exact h.own r b (some_of r h1) h2
 · refine ⟨os.trans h.frame.os,tape.trans h.frame.tape,output.trans h.frame.output,Nat.le_trans h.frame.size size,λk hk hmu=>?_⟩
   rw [blocks k (Nat.lt_of_lt_of_le hk h.frame.size) ?_]
   · exact h.frame.block k hk hmu
   · intro r hr0 ht
     rcases h.own r k (hr r hr0).1 ht with (h1 | h1) | h1
     · omega
     · exact hmu (.inr h1)
     · exact hmu (.inl h1.2)
 · intro b hb
   rcases hz' b hb with h1 | h1
   · exact h.znew b h1
   · have:=h.frame.size; exact .inr (.inl (by omega))
theorem Mem.put1 {X:Cx} {Z:Nat→Prop} {w:World} {θ:Nat→Value} {m:Nat→Option Blk}(h:Mem X Z w θ m)(r:Nat)(vv:Value)(blk:Blk)(hr:64≤r)
 (hB:BRep Z w (λk=>if k=r then vv else θ k) r (killB r blk)) (hnew:∀ r' blk',r'≠r→m r'=some blk'→∀ b,bk vv=some b→bk (θ r')≠some b) (hown:∀ b,bk vv=some b→X.mine b):
 Mem X Z w (λk=>if k=r then vv else θ k) (updM (killM r m) r (some (killB r blk))):=by
 have ht:∀ k,k≠r→(λk=>if k=r then vv else θ k) k=θ k:=λk hk=>by simp [hk]
 have some_of:∀ k,k≠r→(updM (killM r m) r (some (killB r blk)) k).isSome=true→(m k).isSome=true:=by
  intro k hk hs
  simp only [updM,hk,if_false,killM] at hs
  cases hmk:m k with
  | none=>rw [hmk] at hs; cases hs
  | some blk=>rfl
 refine ⟨?_,?_,?_,h.zlt,h.frame,h.zin,h.znew,?_,h.glb⟩
 · intro k blk1 hk
   by_cases e:k=r
   · subst e
     simp only [updM,if_true,sI] at hk
     subst hk
     exact hB
   · simp only [updM,e,if_false,killM] at hk
     split at hk<;>try (cases hk; done)
     rename_i blk' hblk'
     simp only [sI] at hk; subst hk
     have:=h.brep k blk' hblk'
     cases blk' with
     | dead=>exact this.elim
     | clo f z es i off=>
       obtain ⟨v,h1,h2⟩:=this
       exact ⟨v,by simp [e,h1],h2⟩
     | ms n ks=>
       obtain ⟨b',E,clock,h1,h2,h3,h4⟩:=this
       exact ⟨b',E,clock,by simp [e,h1],h2,h3,h4⟩
     | qb T z es=>
       obtain ⟨h0,h1,xs,h2,h3,h4⟩:=this
       exact ⟨h0,h1,xs,by simp only [e,if_false]; exact h2,by simp only [e,if_false]; exact h3,h4⟩
     | buf T z es=>
       obtain ⟨h0,h1,xs,h2,h3,h4⟩:=this
       exact ⟨h0,h1,xs,by simp only [e,if_false]; exact h2,by simp only [e,if_false]; exact h3,h4⟩
     | cells cs'=>
       obtain ⟨b',T',vs',h1,h2,h3,h4⟩:=this
       exact ⟨b',T',vs',by simp [e,h1],h2,h3,h4.kill r ht⟩
 · intro k k' b' h1 h2 h3 h4
   by_cases e:k=r
   · by_cases e':k'=r
     · rw [e,e']
     · subst e
       simp only [if_true] at h3
       simp only [e',if_false] at h4
       have hs:=some_of k' e' h2
       obtain ⟨blk,hblk⟩:=Option.isSome_iff_exists.1 hs
       exact absurd h4 (hnew k' blk e' hblk b' h3)
   · by_cases e':k'=r
     · subst e'
       simp only [if_true] at h4
       simp only [e,if_false] at h3
       have hs:=some_of k e h1
       obtain ⟨blk,hblk⟩:=Option.isSome_iff_exists.1 hs
       exact absurd h3 (hnew k blk e hblk b' h4)
     · simp only [e,if_false] at h3
       simp only [e',if_false] at h4
       exact h.disj k k' b' (some_of k e h1) (some_of k' e' h2) h3 h4
 · intro k b' h1 h2
   by_cases e:k=r
   · subst e
     simp only [if_true] at h2
     exact .inl (hown b' h2)
   · simp only [e,if_false] at h2
     exact h.own k b' (some_of k e h1) h2
 · intro k hk
   have:k≠r:=by omega
   simp [this,h.fix k hk]
theorem Mem.lt {X:Cx} {Z:Nat→Prop} {w:World} {θ:Nat→Value} {m:Nat→Option Blk}(h:Mem X Z w θ m) {r:Nat} {blk:Blk}(hr:m r=some blk) {b:Nat}(hb:bk (θ r) =some b):b < w.heap.size:=by
 have:=h.brep r blk hr
 cases blk with
 | dead=>exact this.elim
 | clo f z es i off=>
   obtain ⟨v,h1,_⟩:=this
   rw [h1] at hb; cases hb
 | ms n ks=>
   obtain ⟨b',E,clock,h1,h2,_⟩:=this
   rw [h1] at hb; simp [bk] at hb; subst hb
   exact Qn0 h2
 | qb T z es=>
   obtain ⟨_,_,xs,h2,_⟩:=this
   exact qrow_lt h2 b hb
 | cells cs=>
   obtain ⟨b',T,vs,h1,h2,_⟩:=this
   rw [h1] at hb; simp [bk] at hb; subst hb
   exact Qn0 h2
 | buf T z es=>
   obtain ⟨_,_,xs,h2,_⟩:=this
   exact ownsRow_lt h2 b hb
theorem Mem.add {X:Cx} {Z:Nat→Prop} {w:World} {θ:Nat→Value} {m:Nat→Option Blk}(h:Mem X Z w θ m)(r b:Nat)(T:TypeId)(cs:List AV)(vs:List Value)(hr:64≤r)
 (hb:w.heap[b]? =some (.cells (List.toArray vs) T (0,0))) (hZ:¬ Z b) (hnew:∀ r' blk,m r'=some blk→bk (θ r')≠some b) (hown:X.mine b) (hcs:Cells Z w θ cs vs):
 Mem X Z w (λk=>if k=r then pt b else θ k) (updM (killM r m) r (some (killB r (.cells cs)))):=by
 refine h.put1 r (pt b) (.cells cs) hr ?_ ?_ ?_
 · exact ⟨b,T,vs,by simp,hb,hZ,hcs.kill r (λk hk=>by simp [hk])⟩
 · intro r' blk' _ hr' b' hb'
   simp [bk] at hb'; subst hb'
   exact hnew r' blk' hr'
 · intro b' hb'
   simp [bk] at hb'; subst hb'
   exact hown
def newM (d:Nat)(m:Nat→Option Blk)(r:Res):Nat→Option Blk:=match r.new with
 | none=>updL m r.ups
 | some (i,b)=>updM (killM i (updL m r.ups)) i (some (killB i b))
structure Out (X:Cx)(Z:Nat→Prop)(w:World)(θ:Nat→Value)(m:Nat→Option Blk)(d:Nat)(r:Res)(v:Value)(Z':Nat→Prop)(w':World)(θ':Nat→Value):Prop where
 val:Rep Z' w' θ' r.val v
 goes:Goes Z w Z' w'
 th:∀ k,(∀ i b,r.new=some (i,b)→k≠i)→θ' k=θ k
 mem:Mem X Z' w' θ' (newM d m r)
 post:∀ q∈r.post,q
def OpOK (P:Program)(X:Cx)(Z:Nat→Prop)(w:World)(θ:Nat→Value)(m:Nat→Option Blk)(a:Act)(o:Oper)(d:Nat)(r:Res):Prop:=
 ∀ (K:Act→World→Prop) (Q:Exit→Act→World→Prop),(∀ v Z' w' θ',Out X Z w θ m d r v Z' w' θ'→K (a.put o.dst v) w')→o.wp P a w K Q
section
variable {P:Program} {X:Cx} {Z:Nat→Prop} {w:World} {θ:Nat→Value} {a:Act} {σ:St} {p:List (Nat×Bool)}
theorem OpOK.of_calm {o:Oper} {d:Nat} {r:Res} {m:Nat→Option Blk}(h:Calm P Z w θ a o r)(hm:Mem X Z w θ m):OpOK P X Z w θ m a o d r:=by
 intro K Q hK
 obtain ⟨h1,h2,h3,v,hrun,hv⟩:=h
 unfold Oper.wp
 rw [hrun,Oper.upon_value]
 refine hK v Z w θ ⟨hv,.refl Z w,λ_ _=>rfl,?_,h3⟩
 unfold newM
 rw [h1,h2]
 exact hm
theorem Qo0 {o:Oper} {v:Value} {w':World}(h:(execOp a.eval o).run P w= .ok (.value v) w') {K:Act→World→Prop} {Q:Exit→Act→World→Prop}(hK:K (a.put o.dst v) w'):o.wp P a w K Q:=by
 unfold Oper.wp
 rw [h,Oper.upon_value]
 exact hK
theorem wp_skip_op {o:Oper} {w':World}(h:(execOp a.eval o).run P w= .ok .skip w') {K:Act→World→Prop} {Q:Exit→Act→World→Prop}(hK:K (a.put o.dst undef) w'):o.wp P a w K Q:=by
 unfold Oper.wp
 rw [h,Oper.upon_skip]
 exact hK
theorem Zn0 (w:World)(o:Obj)(k:Nat)(h:k < w.heap.size):(w.alloc o).heap[k]? =w.heap[k]?:=by
 show (w.heap.push o)[k]? =_
 rw [Array.getElem?_push,if_neg (by omega)]
theorem Mem.alloc {m:Nat→Option Blk}(hm:Mem X Z w θ m)(o:Obj)(Z':Nat→Prop)(hz:∀ b,Z b→Z' b)(hz':∀ b,Z' b→Z b∨b=w.heap.size):Mem X Z' (w.alloc o) θ m∧Goes Z w Z' (w.alloc o):=
 hm.stepW none hz (λb hb=>(hz' b hb).imp id (λe=>by omega)) (λb hb=>by
  have:(w.alloc o).heap.size=w.heap.size+1:=World.size_alloc ..
  rcases hz' b hb with h | h
  · have:=hm.zlt b h; omega
  · omega) rfl rfl rfl (by simp) (λk hk _=>Zn0 w o k hk) (λ_ _=>rfl) (λr h=>by cases h)
theorem ok_new {o:Oper} {d:Nat} {m:Nat→Option Blk}(hm:Mem X Z w θ m)(hd:d+1≠0) {T:TypeId} {cs:List AV} {vs:List Value}(hcs:Cells Z w θ cs vs)
 (hrun:(execOp a.eval o).run P w= .ok (.value (pt w.heap.size)) (w.alloc (.cells (List.toArray vs) T))):OpOK P X Z w θ m a o d ⟨[],[],.ptr ((64 * d+64)) 0,[],some ((64 * d+64),.cells cs),[]⟩:=by
 intro K Q hK
 refine Qo0 hrun (hK _ Z _ (λk=>if k=(64 * d+64) then pt w.heap.size else θ k) ?_)
 obtain ⟨h1,g⟩:=hm.alloc (.cells (List.toArray vs) T) Z (λ_ h=>h) (λ_ h=> .inl h)
 have hnew:(w.alloc (.cells (List.toArray vs) T)).heap[w.heap.size]? =some (.cells (List.toArray vs) T (0,0)):=heap_alloc_new w _
 refine ⟨.ptr _ _ _ _ (by simp),g,λk hk=>?_,?_,by simp⟩
 · have:=hk _ _ rfl
   simp [this]
 · refine h1.add ((64 * d+64)) w.heap.size T cs vs (by omega) hnew ?_ ?_ ?_ (hcs.step g)
   · intro hb; exact absurd (hm.zlt _ hb) (Nat.lt_irrefl _)
   · intro r' blk hblk ht
     rcases Option.isSome_iff_exists.1 (show (m r').isSome=true by rw [hblk]; rfl) with ⟨_,_⟩
     exact absurd (hm.lt hblk ht) (Nat.lt_irrefl _)
   · exact (.inl hm.frame.size)
variable (hs:∀ k,SRep Z w θ a.tmps (σ.s k) (a.tmps.getD k undef))(hp:pathT a.tmps p)
include hs hp
theorem ok_alloc {o:Oper} {d:Nat}(hm:Mem X Z w θ σ.m)(hd:d+1≠0) {e:TypeId}(ho:o.op= .alloc e) {z:List AV}(hz:zeroP P e=some z):OpOK P X Z w θ σ.m a o d ⟨[],[],.ptr ((64 * d+64)) 0,[],some ((64 * d+64),.cells z),[]⟩:=by
 obtain ⟨v,hv,vs,hvs,hcs,_⟩:=zeroP_spec (Z:=Z) (w:=w) (θ:=θ) hz
 refine ok_new hm hd (T:=e) hcs ?_
 simp [execOp,ho,Instr.alloc,hv,newVar,newRow,hvs]
theorem ok_box {o:Oper} {d n:Nat}(hm:Mem X Z w θ σ.m)(hd:d+1≠0) {e:TypeId} {x:Operand}(ho:o.op= .box e x) {x':A}(hx:compA x=some x') {r:Res}(he:bind1 (av σ p x') (boxR n d) =some r):OpOK P X Z w θ σ.m a o d r:=by
 obtain ⟨y,hy,h⟩:=Qe0 he
 have hr:=av_rep hs hp hx hy
 unfold boxR at h
 split at h<;>try (cases h; done)
 rename_i cs hcs
 simp only [sI] at h; subst h
 obtain ⟨_,vs,hvs,hc⟩:=Qw0 hcs hr
 refine ok_new hm hd (T:=e) hc ?_
 simp [execOp,ho,Instr.box,newVar,newRow,hvs]
end
end Go.Ev
namespace Go.Ev
open Go Go.RowKit
section
variable {P:Program}(w:World)
theorem run_append_zero (base:Nat)(t ty e:TypeId)(i:TypeInfo)(ht:P.underlying t=some (.slice e))(hi:P.info? e=some i)
 (v:Value) (n:Nat) (xs:List Value) (hown:w.ownsRow base e i.size v n xs) (ad:Option Addr) (c:Nat):
 (Builtin.append_ #[t,t] ty #[v,.slice ad 0 c]).run P w= .ok v w:=by
 rcases hown.2 with ⟨rfl,rfl⟩ | ⟨g,cap,cur,rfl,_,_,hnc,_⟩
 · cases ad<;>simp [Builtin.append_,run_underlying ht,sizeOf,typeInfo,hi,Builtin.lenOf,Builtin.firstCells,loadCells,loadCellsFrom]
 · cases ad<;>simp [Builtin.append_,run_underlying ht,sizeOf,typeInfo,hi,Builtin.lenOf,Builtin.firstCells,hnc,storeCells,loadCells,loadCellsFrom]
theorem run_append_at (t ty e:TypeId)(i:TypeInfo)(z:Value)(ht:P.underlying t=some (.slice e))(hi:P.info? e=some i)(hz:i.zero=some z)
 (hzs:z.cells.size=i.size) (hsz:0 < i.size)
 (v:Value) (n:Nat) (xs:List Value) (hown:w.ownsRow 0 e i.size v n xs)
 (ad:Option Addr) (m c:Nat) (had:m≠0→ad.isSome=true) (news:List Value) (hl:news.length=m * i.size) (hnews:∀ a,ad=some a→∀ j u,news[j]? =some u→w.cell? (a.add j) =some u) (h1:∀ u∈news,u.oneCell'=true)
 (h63:n+m≤maxLen) (hbytes:(n+m) * i.bytes≤140737488355328):
 ∃ v' w',(Builtin.append_ #[t,t] ty #[v,.slice ad m c]).run P w= .ok v' w'∧w'.ownsRow 0 e i.size v' (n+m) (xs ++ news)∧w.grownBy w' v.ownBlock∧
   (∃ a' n' c',v'= .slice a' n' c')∧∀ b,bk v'=some b→bk v=some b∨w.heap.size≤b:=by
 have hvs:∃ a' n' c',v= .slice a' n' c':=by
  rcases hown.2 with ⟨rfl,_⟩ | ⟨g,cap,cur,rfl,_⟩
  · exact ⟨_,_,_,rfl⟩
  · exact ⟨_,_,_,rfl⟩
 by_cases hm:m=0
 · subst hm
   have hn:news= []:=List.eq_nil_of_length_eq_zero (by simpa using hl)
   subst hn
   exact ⟨v,w,run_append_zero w 0 t ty e i ht hi v n xs hown ad c,by simpa using hown,⟨rfl,rfl,rfl,Nat.le_refl _,λ_ _ _=>rfl⟩,hvs,λb hb=> .inl hb⟩
 · obtain ⟨a,rfl⟩:=Option.isSome_iff_exists.1 (had hm)
   have hnw:=hnews a rfl
   obtain ⟨v',w',hr,h2,h3,_⟩:=run_append_own (P:=P) w 0 t ty e i z i.size i.bytes ht hi hz rfl rfl hzs hsz v n xs hown a m c news hl hnw h1 h63 hbytes (Nat.zero_le _)
   have h63':((n+m:Nat):Int)≤9223372036854775807:=by simp only [maxLen] at h63; omega
   refine ⟨v',w',hr,h2,h3,?_,?_⟩
   · rcases h2.2 with ⟨rfl,_⟩ | ⟨g,cap,cur,rfl,_⟩
     · exact ⟨_,_,_,rfl⟩
     · exact ⟨_,_,_,rfl⟩
   · intro b hb
     rcases hown.2 with ⟨rfl,hn0⟩ | ⟨g,cap,cur,rfl,hbg,hg,hnc,hcm,hcs,htake⟩
     · subst hn0
       have hr2:=run_append_nil (P:=P) w t ty e i z ht hi hz a m c news hl hnw (by omega) (by omega) (by simp only [Nat.zero_add] at hbytes; omega)
       rw [hr] at hr2
       injection hr2 with e1 e2
       subst e1
       simp [bk] at hb
       right; omega
     · by_cases hroom:n+m≤cap
       · have hfit:n * i.size+news.length≤cur.size:=by rw [hl,hcs,← Nat.add_mul]; exact Nat.mul_le_mul_right _ hroom
         have hr2:=run_append_room (P:=P) w t ty e i ht hi g n cap cur hg a m c news hl hnw h1 hroom hfit
         rw [hr] at hr2
         injection hr2 with e1 e2
         subst e1
         simp [bk] at hb
         left; simp [bk,hb]
       · have holds:∀ j u,xs[j]? =some u→w.cell? ((⟨g,0,none⟩:Addr).add j) =some u:=hown.cells (g:=g) rfl
         have hr2:=run_append_grow (P:=P) w t ty e i z ht hi hz ⟨g,0,none⟩ n cap xs hown.1 holds a m c news hl hnw (by omega) h63' (growslice_fits (by omega) hbytes)
         rw [hr] at hr2
         injection hr2 with e1 e2
         subst e1
         simp [bk] at hb
         right; omega
end
theorem flat_get {k:Nat}(hk:0 < k):∀ {es:List (List AV)},(∀ e∈es,e.length=k)→∀ t,es.flatten[t]? =cellAt es (t / k) (t % k)
 | [],_,t=>by simp [cellAt]
 | e ::es,h,t=>by
   have he:e.length=k:=h e (by simp)
   simp only [List.flatten_cons]
   by_cases ht:t < k
   · rw [List.getElem?_append_left (by omega)]
     simp [cellAt,Nat.div_eq_of_lt ht,Nat.mod_eq_of_lt ht]
   · obtain ⟨s,rfl⟩:∃ s,t=s+k:=⟨t - k,by omega⟩
     rw [List.getElem?_append_right (by omega),he,Nat.add_sub_cancel,flat_get hk (λe he=>h e (by simp [he])) s,Nat.add_div_right _ hk,Nat.add_mod_right]
     simp [cellAt]
theorem flat_len {k:Nat}:∀ {es:List (List AV)},(∀ e∈es,e.length=k)→es.flatten.length=es.length * k
 | [],_=>by simp
 | e::es,h=>by
   have he:e.length=k:=h e (by simp)
   rw [List.flatten_cons,List.length_append,flat_len (λe he=>h e (by simp [he])),he,List.length_cons,Nat.succ_mul,Nat.add_comm]
structure Reads (Z:Nat→Prop)(w:World)(k:Nat)(es:List (List AV))(v:Value):Prop where
 rows:∀ e∈es,e.length=k
 ex:∃ (ad:Option Addr) (c:Nat) (news:List Value),v= .slice ad es.length c∧(es.length≠0→ad.isSome=true)∧news.length=es.length * k∧(∀ a,ad=some a→∀ (j:Nat) (u:Value),news[j]? =some u→w.cell? (a.add j) =some u)∧Cells Z w th0 es.flatten news
theorem reads_lst {Z:Nat→Prop} {w:World} {θ:Nat→Value} {z:List AV} {es:List (List AV)} {v:Value}(hk:0 < z.length)(h:Rep Z w θ (.lst z es) v):Reads Z w z.length es v:=by
 cases h with
 | lst _ _ _ a cap f hc hm hz hat hmem h1 h=>
   refine ⟨hz,a,cap,(List.range (es.length * z.length)).map (λt=>f (t / z.length) (t % z.length)),rfl,?_,by simp,?_,?_⟩
   · intro hne
     obtain ⟨b,o,ha,_⟩:=hmem (λe=>hne (by rw [e]; rfl))
     rw [ha]; rfl
   · intro ad had j u hj
     have hlt:j < es.length * z.length:=by
      have:=(List.getElem?_eq_some_iff.1 hj).1
      simpa using this
     have hne:es≠ []:=by
      rintro rfl; simp at hlt
     obtain ⟨b,o,ha,hb,hcell⟩:=hmem hne
     rw [ha] at had
     obtain rfl:=Option.some.inj had
     have hj':f (j / z.length) (j % z.length) =u:=by
      rw [List.getElem?_map,List.getElem?_range hlt] at hj
      simpa using hj
     have hfl:j < es.flatten.length:=by rw [flat_len hz]; exact hlt
     have hg:=flat_get hk hz j
     rw [List.getElem?_eq_getElem hfl] at hg
     have:=hcell _ _ _ hg.symm
     rw [Qp0,← hj',← this]
     congr 2
     rw [Nat.div_add_mod']
   · refine ⟨by simp [flat_len hz],?_,?_,?_⟩
     · intro c hc
       obtain ⟨e,he,hce⟩:=List.mem_flatten.1 hc
       exact hat e he c hce
     · intro u hu
       obtain ⟨t,ht,rfl⟩:=List.mem_map.1 hu
       have hlt:t < es.length * z.length:=by simpa using ht
       have hfl:t < es.flatten.length:=by rw [flat_len hz]; exact hlt
       have hg:=flat_get hk hz t
       rw [List.getElem?_eq_getElem hfl] at hg
       exact h1 _ _ _ hg.symm
     · intro t c u hc hu
       rw [flat_get hk hz t] at hc
       have hlt:t < es.length * z.length:=by
        have:=(List.getElem?_eq_some_iff.1 hu).1
        simpa using this
       rw [List.getElem?_map,List.getElem?_range hlt] at hu
       have hu:f (t / z.length) (t % z.length) =u:=by simpa using hu
       rw [← hu]
       exact h _ _ _ hc
theorem reads_nil {Z:Nat→Prop} {w:World} {θ:Nat→Value} {v:Value}(k:Nat)(h:Rep Z w θ .nil v):Reads Z w k [] v:=by
 cases h
 exact ⟨by simp,none,0,[],rfl,by simp,by simp,by simp,Cells.nil _ _ _⟩
theorem reads_buf {X:Cx} {Z:Nat→Prop} {w:World} {θ:Nat→Value} {m:Nat→Option Blk}(hm:Mem X Z w θ m) {r x y zz T:Nat} {z:List AV} {es:List (List AV)} {v:Value}(hr:m r=some (.buf T z es))(h:Rep Z w θ (.vw r x y zz) v):
 Reads Z w z.length es v∧∃ xs,w.ownsRow 0 T z.length v es.length xs∧Cells Z w th0 es.flatten xs:=by
 obtain ⟨hz,hrows,xs,hown,_,hc⟩:=hm.brep r _ hr
 cases h with
 | vw _ _ _ _ _ a n c h=>
   rw [h] at hown
   refine ⟨⟨hrows,?_⟩,xs,hown,hc⟩
   rcases hown.2 with ⟨hv,hn⟩ | ⟨g,cap,cur,hv,h0,hg,hnc,hcm,hcs,htake⟩
   · cases hv
     have:xs= []:=List.eq_nil_of_length_eq_zero (by have:=hown.1; rw [hn] at this; simpa using this)
     subst this
     refine ⟨none,0,[],by rw [hn],by simp [hn],by simp [hn],by simp,hc⟩
   · cases hv
     refine ⟨_,_,xs,rfl,by simp,hown.1,?_,hc⟩
     intro ad had j u hj
     cases had
     exact hown.cells (g:=g) rfl j u hj
theorem flat_dropk {k:Nat}:∀ {es:List (List AV)},(∀ e∈es,e.length=k)→∀ i,(es.drop i).flatten=es.flatten.drop (i * k)
 | [],_,i=>by simp
 | e::es,h,0=>by simp
 | e::es,h,i+1=>by
   have he:e.length=k:=h e (by simp)
   rw [List.drop_succ_cons,flat_dropk (λe he=>h e (by simp [he])) i,List.flatten_cons,show (i+1) * k=e.length+i * k by rw [he,Nat.add_mul]; omega,List.drop_length_add_append]
theorem flat_takek {k:Nat}:∀ {es:List (List AV)},(∀ e∈es,e.length=k)→∀ i,(es.take i).flatten=es.flatten.take (i * k)
 | [],_,i=>by simp
 | e::es,h,0=>by simp
 | e::es,h,i+1=>by
   have he:e.length=k:=h e (by simp)
   rw [List.take_succ_cons,List.flatten_cons,flat_takek (λe he=>h e (by simp [he])) i,List.flatten_cons,show (i+1) * k=e.length+i * k by rw [he,Nat.add_mul]; omega,List.take_length_add_append]
theorem part_cells {Z:Nat→Prop} {w:World} {k:Nat} {es:List (List AV)} {xs:List Value}(hz:∀ e∈es,e.length=k)(hc:Cells Z w th0 es.flatten xs)(lo n:Nat):
 (∀ e∈(es.drop lo).take n,e.length=k)∧Cells Z w th0 ((es.drop lo).take n).flatten ((xs.drop (lo * k)).take (n * k)):=by
 have hd:∀ e∈es.drop lo,e.length=k:=λe he=>hz e (List.mem_of_mem_drop he)
 refine ⟨λe he=>hd e (List.mem_of_mem_take he),?_⟩
 rw [flat_takek hd,flat_dropk hz]
 exact (hc.drop _).take _
theorem reads_part {X:Cx} {Z:Nat→Prop} {w:World} {θ:Nat→Value} {m:Nat→Option Blk}(hm:Mem X Z w θ m) {r lo hi T:Nat} {z:List AV} {es:List (List AV)} {v:Value}(hr:m r=some (.buf T z es))(h:Rep Z w θ (.sv r z.length lo hi) v):
 Reads Z w z.length ((es.drop lo).take (hi - lo)) v:=by
 obtain ⟨hz0,hrows,xs,hown,_,hc⟩:=hm.brep r _ hr
 cases h with
 | sv _ _ _ _ _ a n c a' c' hθ h1 h2 h3 h4 h5=>
   rw [hθ] at hown
   obtain ⟨hpr,hpc⟩:=part_cells hrows hc lo (hi - lo)
   have hn:n=es.length:=by
    rcases hown.2 with ⟨hv,h0⟩ | ⟨g,cap,cur,hv,_⟩
    · cases hv; exact h0.symm
    · cases hv; rfl
   have hlen:((es.drop lo).take (hi - lo)).length=hi - lo:=by simp; omega
   refine ⟨hpr,a',c',(xs.drop (lo * z.length)).take ((hi - lo) * z.length),by rw [hlen],?_,?_,?_,hpc⟩
   · intro hne
     rw [hlen] at hne
     obtain ⟨g,_,e⟩:=h3 (by omega)
     rw [e]; rfl
   · rw [hlen]
     have:=hown.1
     simp only [List.length_take,List.length_drop,this]
     have e1:(hi - lo) * z.length+lo * z.length≤es.length * z.length:=by rw [← Nat.add_mul]; exact Nat.mul_le_mul_right _ (by omega)
     omega
   · intro ad had j u hj
     have hlt:lo < hi:=by
      rcases Nat.lt_or_ge lo hi with h | h
      · exact h
      · rw [show hi - lo=0 by omega] at hj; simp at hj
     obtain ⟨g,e1,e2⟩:=h3 hlt
     subst e1
     rw [had] at e2
     obtain rfl:=Option.some.inj e2
     rw [List.getElem?_take] at hj
     split at hj<;>try (cases hj; done)
     rw [List.getElem?_drop] at hj
     have:=hown.cells (g:=g) rfl _ u hj
     rw [Qp0] at this ⊢
     rw [show lo * z.length+j=0+(lo * z.length+j) by omega]
     exact this
theorem bk_own (v:Value) {k:Nat}(h:v.ownBlock=some k) {T:TypeId} {w:World} {size n:Nat} {xs:List Value}(ho:w.ownsRow 0 T size v n xs):bk v=some k:=by
 rcases ho.2 with ⟨rfl,_⟩ | ⟨g,cap,cur,rfl,_⟩
 · cases h
 · simp [Value.ownBlock] at h; subst h; rfl
theorem base_spec {X:Cx} {Z:Nat→Prop} {w:World} {θ:Nat→Value} {m:Nat→Option Blk}(hm:Mem X Z w θ m) {e k d:Nat} {x:AV} {v:Value}(hx:Rep Z w θ x v) {i:Nat} {es:List (List AV)} {t:List Nat}(h:baseOf m e k d x=some (i,es,t)):
 (∀ r∈es,r.length=k)∧(∃ xs,w.ownsRow 0 e k v es.length xs∧Cells Z w th0 es.flatten xs)∧((i=(64 * d+64)∧bk v=none)∨(64≤i∧θ i=v∧(m i).isSome=true∧∀ b,bk v=some b→¬ Z b)):=by
 unfold baseOf at h
 split at h
 · simp only [sI,Prod.mk.injEq] at h
   obtain ⟨rfl,rfl,rfl⟩:=h
   cases hx
   exact ⟨by simp,⟨[],World.ownsRow_nil w 0 e k,Cells.nil _ _ _⟩,.inl ⟨rfl,rfl⟩⟩
 · rename_i r _ _ _
   split at h<;>try (cases h; done)
   rename_i t' z es' hr
   split at h<;>try (cases h; done)
   rename_i hc
   obtain ⟨rfl,rfl,h64⟩:=hc
   simp only [sI,Prod.mk.injEq] at h
   obtain ⟨rfl,rfl,rfl⟩:=h
   obtain ⟨hz,hrows,xs,hown,hnz,hcc⟩:=hm.brep r _ hr
   cases hx with
   | vw _ _ _ _ _ a n c hθ=>
     rw [hθ] at hown hnz
     exact ⟨hrows,⟨xs,hown,hcc⟩,.inr ⟨h64,hθ,by rw [hr]; rfl,hnz⟩⟩
 · cases h
theorem ys_spec {X:Cx} {Z:Nat→Prop} {w:World} {θ:Nat→Value} {m:Nat→Option Blk}(hm:Mem X Z w θ m) {k:Nat}(hk:0 < k) {y:AV} {v:Value}(hy:Rep Z w θ y v) {ys:List (List AV)} {t:List Nat}(h:ysOf m k y=some (ys,t)):Reads Z w k ys v:=by
 unfold ysOf at h
 split at h
 · rename_i r sz lo hi
   unfold ysP at h
   split at h<;>try (cases h; done)
   rename_i hr
   split at h<;>try (cases h; done)
   rename_i hc
   simp only [Bool.and_eq_true,beq_iff_eq] at hc
   obtain ⟨rfl,rfl⟩:=hc
   simp only [sI,Prod.mk.injEq] at h
   obtain ⟨rfl,rfl⟩:=h
   exact reads_part hm hr hy
 · simp only [sI,Prod.mk.injEq] at h
   obtain ⟨rfl,rfl⟩:=h
   exact reads_nil k hy
 · split at h<;>try (cases h; done)
   rename_i hc
   subst hc
   simp only [sI,Prod.mk.injEq] at h
   obtain ⟨rfl,rfl⟩:=h
   exact reads_lst hk hy
 · split at h<;>try (cases h; done)
   rename_i hr
   split at h<;>try (cases h; done)
   rename_i hc
   subst hc
   simp only [sI,Prod.mk.injEq] at h
   obtain ⟨rfl,rfl⟩:=h
   exact (reads_buf hm hr hy).1
 · cases h
theorem app_out {P:Program} {X:Cx} {Z:Nat→Prop} {w:World} {θ:Nat→Value} {m:Nat→Option Blk}(hm:Mem X Z w θ m) {d:Nat}(hd:d+1≠0) {t ty e:TypeId} {i:TypeInfo} {zv:Value}(ht:P.underlying t=some (.slice e))(hi:P.info? e=some i)(hz:i.zero=some zv)
 (hzs:zv.cells.size=i.size) (hsz:0 < i.size) {z:List AV} (hzl:z.length=i.size) {x y:AV} {vx vy:Value} (hx:Rep Z w θ x vx) (hy:Rep Z w θ y vy) {r:Res} (he:appR m e i.bytes z d x y=some r) (hpre:∀ q∈r.pre,q):
 ∃ v' w' θ',(Builtin.append_ #[t,t] ty #[vx,vy]).run P w= .ok v' w'∧Out X Z w θ m d r v' Z w' θ':=by
 unfold appR at he
 split at he<;>try (cases he; done)
 rename_i id es t1 ys t2 hb hys
 simp only [sI] at he; subst he
 have h63:=hpre (es.length+ys.length≤9223372036854775807) (by simp)
 have hby:=hpre ((es.length+ys.length) * i.bytes≤140737488355328) (by simp)
 obtain ⟨hrows,⟨xs,hown,hcx⟩,hid⟩:=base_spec hm hx hb
 obtain ⟨hrows2,ad,c,news,rfl,had,hl,hnews,hcn⟩:=ys_spec hm (by omega) hy hys
 rw [hzl] at hown hl
 have hone:∀ u∈news,u.oneCell'=true:=hcn.one
 obtain ⟨v',w',hr,hown',hgb,⟨a',n',c',hv'⟩,hblk⟩:=run_append_at (P:=P) w t ty e i zv ht hi hz hzs hsz vx es.length xs hown ad ys.length c had news hl hnews hone (by simp only [maxLen]; omega) hby
 have hnZ:∀ b,bk v'=some b→¬ Z b:=by
  intro b hb' hzb
  rcases hblk b hb' with h | h
  · rcases hid with ⟨_,h0⟩ | ⟨_,_,_,h0⟩
    · rw [h0] at h; cases h
    · exact h0 b h hzb
  · have:=hm.zlt b hzb; omega
 have hownX:∀ b,bk v'=some b→X.mine b:=by
  intro b hb'
  rcases hblk b hb' with h | h
  · rcases hid with ⟨_,h0⟩ | ⟨h64,h0,h1,_⟩
    · rw [h0] at h; cases h
    · rcases hm.own id b h1 (by rw [h0]; exact h) with h | h
      · exact h
      · omega
  · have:=hm.frame.size; exact .inl (by omega)
 have hstep:∃ m',Mem X Z w' θ m'∧Goes Z w Z w'∧(∀ k,k≠id→m' k=m k):=by
  rcases hid with ⟨_,h0⟩ | ⟨h64,h0,h1,h2⟩
  · have hno:vx.ownBlock=none:=by
     cases hN:vx.ownBlock with
     | none=>rfl
     | some k=>rw [bk_own vx hN hown] at h0; cases h0
    obtain ⟨q1,q2⟩:=hm.stepW (w':=w') (m':=m) none (λ_ h=>h) (λ_ h=> .inl h) (λb hb'=>Nat.lt_of_lt_of_le (hm.zlt b hb') hgb.size) hgb.os hgb.tape hgb.output hgb.size (λk hk _=>hgb.block k hk (by rw [hno]; simp)) (λ_ _=>rfl) (λr h=>by cases h)
    exact ⟨m,q1,q2,λ_ _=>rfl⟩
  · obtain ⟨q1,q2⟩:=hm.stepW (w':=w') (m':=updM m id none) (some id) (λ_ h=>h) (λ_ h=> .inl h) (λb hb'=>Nat.lt_of_lt_of_le (hm.zlt b hb') hgb.size) hgb.os hgb.tape hgb.output hgb.size
     (λk hk hne=>hgb.block k hk (by
      intro hk'
      have:=bk_own vx hk'.symm hown
      exact hne id rfl (by rw [h0]; exact this)))
     (λk hk=>by have:k≠id:=λe=>hk (by rw [e]); simp [updM,this])
     (λk hk=>by
      simp only [sI] at hk; subst hk
      exact ⟨h1,λblk hblk=>by simp [updM] at hblk⟩)
    exact ⟨_,q1,q2,λk hk=>by simp [updM,hk]⟩
 obtain ⟨m',hm',hg,hmm⟩:=hstep
 have h64:64≤id:=by
  rcases hid with ⟨h,_⟩ | ⟨h,_⟩
  · omega
  · exact h
 have hput:=hm'.put1 id v' (.buf e z (es ++ ys)) h64 (by
  refine ⟨λhz0=>?_,?_,xs ++ news,?_,?_,?_⟩
  · rw [hz0] at hzl; simp at hzl; omega
  · intro q hq
    rcases List.mem_append.1 hq with hq | hq
    · exact hrows q hq
    · exact hrows2 q hq
  · simp only [if_true,List.length_append,hzl]
    exact hown'
  · intro b hb'
    simp only [if_true] at hb'
    exact hnZ b hb'
  · rw [List.flatten_append]
    exact (hcx.append hcn).step hg) (by
  intro r' blk' hne hr' b hb' hb2
  have hr0:m r'=some blk':=by rw [← hmm r' hne]; exact hr'
  rcases hblk b hb' with h | h
  · rcases hid with ⟨_,h0⟩ | ⟨_,h0,h1,_⟩
    · rw [h0] at h; cases h
    · exact hne (hm.disj r' id b (by rw [hr0]; rfl) h1 hb2 (by rw [h0]; exact h))
  · have:=hm.lt hr0 hb2; omega) hownX
 have heq:updM (killM id m') id (some (killB id (.buf e z (es ++ ys)))) =updM (killM id m) id (some (killB id (.buf e z (es ++ ys)))):=by
  funext k
  simp only [updM,killM]
  by_cases hk:k=id
  · simp [hk]
  · simp [hk,hmm k hk]
 rw [heq] at hput
 refine ⟨v',w',λk=>if k=id then v' else θ k,hr,?_,hg,λk hk=>?_,hput,by simp⟩
 · subst hv'
   exact .vw _ _ _ _ _ _ _ _ (by simp)
 · have:=hk _ _ rfl
   simp [this]
theorem app_outD {P:Program} {X:Cx} {Z:Nat→Prop} {w:World} {θ:Nat→Value} {m:Nat→Option Blk}(hm:Mem X Z w θ m) {d:Nat}(hd:d+1≠0) {t ty e:TypeId} {i:TypeInfo} {zv:Value}(ht:P.underlying t=some (.slice e))(hi:P.info? e=some i)(hz:i.zero=some zv)
 (hzs:zv.cells.size=i.size) (hsz:0 < i.size) {z:List AV} (hzl:z.length=i.size) {x y:AV} {vx vy:Value} (hx:Rep Z w θ x vx) (hy:Rep Z w θ y vy) {r:Res} (he:appDR m e i.bytes z d x y=some r) (hpre:∀ q∈r.pre,q):
 ∃ v' w' θ',(Builtin.append_ #[t,t] ty #[vx,vy]).run P w= .ok v' w'∧Out X Z w θ m d r v' Z w' θ':=by
 unfold appDR at he
 split at he
 · exact app_out hm hd ht hi hz hzs hsz hzl hx hy he hpre
 · rename_i r0 x1 x2 x3
   split at he<;>try (cases he; done)
   rename_i id es t1 ys t2 hne hb hys
   have hne:r0≠64 * d+64:=by simpa using hne
   simp only [sI] at he; subst he
   have h63:=hpre (es.length+ys.length≤9223372036854775807) (by simp)
   have hby:=hpre ((es.length+ys.length) * i.bytes≤140737488355328) (by simp)
   have hid0:id=r0:=by
    unfold baseOf at hb
    simp only at hb
    split at hb<;>try (cases hb; done)
    split at hb<;>try (cases hb; done)
    simp only [sI,Prod.mk.injEq] at hb
    exact hb.1.symm
   subst hid0
   obtain ⟨hrows,⟨xs,hown,hcx⟩,hid⟩:=base_spec hm hx hb
   have hid:64≤id∧θ id=vx∧(m id).isSome=true∧∀ b,bk vx=some b→¬ Z b:=by
    rcases hid with ⟨h1,_⟩ | h
    · exact absurd h1 hne
    · exact h
   obtain ⟨h64,h0,h1,h2⟩:=hid
   obtain ⟨hrows2,ad,c,news,rfl,had,hl,hnews,hcn⟩:=ys_spec hm (by omega) hy hys
   rw [hzl] at hown hl
   have hone:∀ u∈news,u.oneCell'=true:=hcn.one
   obtain ⟨v',w',hr,hown',hgb,⟨a',n',c',hv'⟩,hblk⟩:=run_append_at (P:=P) w t ty e i zv ht hi hz hzs hsz vx es.length xs hown ad ys.length c had news hl hnews hone (by simp only [maxLen]; omega) hby
   have hnZ:∀ b,bk v'=some b→¬ Z b:=by
    intro b hb' hzb
    rcases hblk b hb' with h | h
    · exact h2 b h hzb
    · have:=hm.zlt b hzb; omega
   have hownX:∀ b,bk v'=some b→X.mine b:=by
    intro b hb'
    rcases hblk b hb' with h | h
    · rcases hm.own id b h1 (by rw [h0]; exact h) with h | h
      · exact h
      · omega
    · have:=hm.frame.size; exact .inl (by omega)
   obtain ⟨q1,q2⟩:=hm.stepW (w':=w') (m':=updM m id none) (some id) (λ_ h=>h) (λ_ h=> .inl h) (λb hb'=>Nat.lt_of_lt_of_le (hm.zlt b hb') hgb.size) hgb.os hgb.tape hgb.output hgb.size
    (λk hk hne=>hgb.block k hk (by
     intro hk'
     have:=bk_own vx hk'.symm hown
     exact hne id rfl (by rw [h0]; exact this)))
    (λk hk=>by have:k≠id:=λe=>hk (by rw [e]); simp [updM,this])
    (λk hk=>by
     simp only [sI] at hk; subst hk
     exact ⟨h1,λblk hblk=>by simp [updM] at hblk⟩)
   have hput:=q1.put1 (64 * d+64) v' (.buf e z (es ++ ys)) (by omega) (by
    refine ⟨λhz0=>?_,?_,xs ++ news,?_,?_,?_⟩
    · rw [hz0] at hzl; simp at hzl; omega
    · intro q hq
      rcases List.mem_append.1 hq with hq | hq
      · exact hrows q hq
      · exact hrows2 q hq
    · simp only [if_true,List.length_append,hzl]
      exact hown'
    · intro b hb'
      simp only [if_true] at hb'
      exact hnZ b hb'
    · rw [List.flatten_append]
      exact (hcx.append hcn).step q2) (by
    intro r' blk' hne' hr' b hb' hb2
    by_cases hri:r'=id
    · subst hri; simp [updM] at hr'
    · have hr0:m r'=some blk':=by simpa [updM,hri] using hr'
      rcases hblk b hb' with h | h
      · exact hri (hm.disj r' id b (by rw [hr0]; rfl) h1 hb2 (by rw [h0]; exact h))
      · have:=hm.lt hr0 hb2; omega) hownX
   refine ⟨v',w',λk=>if k=64 * d+64 then v' else θ k,hr,?_,q2,λk hk=>?_,?_,by simp⟩
   · subst hv'
     exact .vw _ _ _ _ _ _ _ _ (by simp)
   · have:=hk _ _ rfl
     simp [this]
   · exact hput
 · cases he
end Go.Ev
