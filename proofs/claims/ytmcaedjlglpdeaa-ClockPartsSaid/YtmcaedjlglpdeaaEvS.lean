/- A part of the proof: symbolic evaluation of the program's functions, proved sound against the model; no condition. -/
/-
  The framework 'Ev', part S: the evaluator, step by step: one equation for each shape.
  Conditions: none; a text of lemmas.
-/
import Derived.Test.YtmcaedjlglpdeaaEvK
namespace Go.Ev
open Go Go.RowKit
set_option linter.unusedVariables false

def gvB (b : Bool) (v : AV) : Option AV := match b with
  | true => some v
  | false => none
theorem gvB_true (v : AV) : gvB true v = some v := rfl
def goOp (Φ : Nat → Option Ctr) (rest : List RO) (K : St → Prop) (σ : St) (dst : Option Nat) : Option Res → Prop
  | none => False
  | some r => askL r.pre (knowL r.post (evOps Φ rest (σ.put dst r) K))
def gG (Φ : Nat → Option Ctr) (op : IOp) (d : Nat) (σ : St) : Option (List (Nat × Bool)) → Option Res
  | none => none
  | some p => guardR σ p (evOp Φ op d p σ)
def guardU (σ : St) (e : Nat × Bool) (pre : List Prop) (v : AV) (t : List Nat) : Option (List (Nat × Blk)) → Option Res
  | none => none
  | some us => some ⟨guardL σ.s [e] pre, [], .gd [e] v, us, none, t⟩
def beqO (b : Bool) : Option Bool → Bool
  | some c => c == b
  | none => false
theorem beqO_some (b c : Bool) : beqO b (some c) = (c == b) := rfl
def killO (r : Nat) : Option Blk → Option Blk
  | none => none
  | some b => some (killB r b)
theorem killO_none (r : Nat) : killO r none = none := rfl
theorem killO_some (r : Nat) (b : Blk) : killO r (some b) = some (killB r b) := rfl
def consO : Option AV → Option (List AV) → Option (List AV)
  | some v, some vs => some (v :: vs)
  | _, _ => none
theorem consO_some (v : AV) (vs : List AV) : consO (some v) (some vs) = some (v :: vs) := rfl
def evPick (σ : St) (p : List (Nat × Bool)) (c a b : A) : Option Nat → Option Res
  | some k => bind1 (av σ p c) fun vc => bind2 (av σ (p ++ [(k, true)]) a) (av σ (p ++ [(k, false)]) b) (pickV vc)
  | none => none
def pick3 : Option AV → Option AV → Option AV → Option Res
  | some c, some a, some b => pickV c a b
  | _, _, _ => none
def cmp2 (op : BinOp) (ty : Nat) : Option AV → Option AV → Option Res
  | some v, some w => toR (cmpR op ty v w)
  | _, _ => none
def eqa2 (neg : Bool) (sh : List Nat) : Option AV → Option AV → Option Res
  | some v, some w => toR (eqaR neg sh v w)
  | _, _ => none
def eqaB (neg : Bool) : Option Bool → Option AV
  | some b => some (.bool (match neg with | true => !b | false => b))
  | none => none
theorem eqaB_t (b : Bool) : eqaB true (some b) = some (.bool (!b)) := rfl
theorem eqaB_f (b : Bool) : eqaB false (some b) = some (.bool b) := rfl
def andO (b : Bool) : Option Bool → Option Bool
  | some c => some (b && c)
  | none => none
theorem andO_some (b c : Bool) : andO b (some c) = some (b && c) := rfl
def mmO (mx : Bool) : Option (List AV) → Option Res
  | some (.int k n :: vs) => toR (minmaxL mx (.int k n) vs)
  | _ => none
theorem mmO_some (mx : Bool) (k : IntKind) (n : Int) (vs : List AV) : mmO mx (some (.int k n :: vs)) = toR (minmaxL mx (.int k n) vs) := rfl
def iasB (z : List AV) (es : List (List AV)) (n : Int) : Bool → Option Res
  | true => some ⟨[0 ≤ n ∧ n < es.length], [es.length ≤ 9223372036854775807], .ep z es n.toNat 0, [], none, []⟩
  | false => none
theorem iasB_true (z : List AV) (es : List (List AV)) (n : Int) : iasB z es n true = some ⟨[0 ≤ n ∧ n < es.length], [es.length ≤ 9223372036854775807], .ep z es n.toNat 0, [], none, []⟩ := rfl
def iaA (n sz : Nat) (i : A) : Option AV → Option Res
  | some v => iaddrAR n sz v i
  | none => none
theorem iaA_some (n sz : Nat) (i : A) (v : AV) : iaA n sz i (some v) = iaddrAR n sz v i := rfl
def ldB (n : Nat) (ag : Bool) (o r : Nat) : Option Blk → Option Res
  | some (.cells cs) => (match valOf ag n cs o with
    | some v => some ⟨[], [], v, [], none, [r]⟩
    | none => none)
  | _ => none
def ldV (t : List Nat) : Option AV → Option Res
  | some v => some ⟨[], [], v, [], none, t⟩
  | none => none
theorem ldV_some (t : List Nat) (v : AV) : ldV t (some v) = some ⟨[], [], v, [], none, t⟩ := rfl
theorem ldB_cells (n : Nat) (ag : Bool) (o r : Nat) (cs : List AV) : ldB n ag o r (some (.cells cs)) = ldV [r] (valOf ag n cs o) := by
  simp only [ldB]; cases valOf ag n cs o <;> rfl
def valB (n : Nat) (cs : List AV) (off : Nat) : Bool → Option AV
  | true => some (.agg ((cs.drop off).take n))
  | false => none
theorem valB_true (n : Nat) (cs : List AV) (off : Nat) : valB n cs off true = some (.agg ((cs.drop off).take n)) := rfl
def stB (n o r : Nat) : Option (List AV) → Option Blk → Option Res
  | some vs, some (.cells cs) => (match decide (o + n ≤ cs.length) with
    | true => some ⟨[], [], .junk, [(r, .cells (setCells cs o vs))], none, [r]⟩
    | false => none)
  | _, _ => none
def stC (o r : Nat) (vs cs : List AV) : Bool → Option Res
  | true => some ⟨[], [], .junk, [(r, .cells (setCells cs o vs))], none, [r]⟩
  | false => none
theorem stC_true (o r : Nat) (vs cs : List AV) : stC o r vs cs true = some ⟨[], [], .junk, [(r, .cells (setCells cs o vs))], none, [r]⟩ := rfl
theorem stB_cells (n o r : Nat) (vs cs : List AV) : stB n o r (some vs) (some (.cells cs)) = stC o r vs cs (decide (o + n ≤ cs.length)) := by
  simp only [stB]; cases decide (o + n ≤ cs.length) <;> rfl
def bxO (d : Nat) : Option (List AV) → Option Res
  | some cs => some ⟨[], [], .ptr (64 * d) 0, [], some (.cells cs), []⟩
  | none => none
theorem bxO_some (d : Nat) (cs : List AV) : bxO d (some cs) = some ⟨[], [], .ptr (64 * d) 0, [], some (.cells cs), []⟩ := rfl
def blO : Option (List AV) → Option Res
  | some cs => some ⟨[], [], .agg cs, [], none, []⟩
  | none => none
theorem blO_some (cs : List AV) : blO (some cs) = some ⟨[], [], .agg cs, [], none, []⟩ := rfl
def blS (z : List AV) : Option (List (List AV)) → Option Res
  | some es => some ⟨[], [], .lst z es, [], none, []⟩
  | none => none
theorem blS_some (z : List AV) (es : List (List AV)) : blS z (some es) = some ⟨[], [], .lst z es, [], none, []⟩ := rfl
def faK (σ : St) (p : List (Nat × Bool)) (cs : List AV) (off n : Nat) (ps : List (Nat × Nat × A)) : Option AV → Option (List AV)
  | some v => (match cellsOfAV n v with
    | some vs => if off + n ≤ cs.length then fillA σ p (setCells cs off vs) ps else none
    | none => none)
  | none => none
def faC (σ : St) (p : List (Nat × Bool)) (cs : List AV) (off n : Nat) (ps : List (Nat × Nat × A)) : Option (List AV) → Option (List AV)
  | some vs => if off + n ≤ cs.length then fillA σ p (setCells cs off vs) ps else none
  | none => none
theorem faK_some (σ : St) (p : List (Nat × Bool)) (cs : List AV) (off n : Nat) (ps : List (Nat × Nat × A)) (v : AV) : faK σ p cs off n ps (some v) = faC σ p cs off n ps (cellsOfAV n v) := by
  simp only [faK]; cases cellsOfAV n v <;> rfl
theorem faC_some (σ : St) (p : List (Nat × Bool)) (cs : List AV) (off n : Nat) (ps : List (Nat × Nat × A)) (vs : List AV) : faC σ p cs off n ps (some vs) = if off + n ≤ cs.length then fillA σ p (setCells cs off vs) ps else none := rfl
def fsK (σ : St) (p : List (Nat × Bool)) (n : Nat) (es : List (List AV)) (i : Nat) (ps : List (Nat × A)) : Option AV → Option (List (List AV))
  | some v => (match cellsOfAV n v with
    | some vs => if i < es.length ∧ vs.all AV.clean0 = true then fillS σ p n (es.set i vs) ps else none
    | none => none)
  | none => none
def fsC (σ : St) (p : List (Nat × Bool)) (n : Nat) (es : List (List AV)) (i : Nat) (ps : List (Nat × A)) : Option (List AV) → Option (List (List AV))
  | some vs => if i < es.length ∧ vs.all AV.clean0 = true then fillS σ p n (es.set i vs) ps else none
  | none => none
theorem fsK_some (σ : St) (p : List (Nat × Bool)) (n : Nat) (es : List (List AV)) (i : Nat) (ps : List (Nat × A)) (v : AV) : fsK σ p n es i ps (some v) = fsC σ p n es i ps (cellsOfAV n v) := by
  simp only [fsK]; cases cellsOfAV n v <;> rfl
theorem fsC_some (σ : St) (p : List (Nat × Bool)) (n : Nat) (es : List (List AV)) (i : Nat) (ps : List (Nat × A)) (vs : List AV) : fsC σ p n es i ps (some vs) = if i < es.length ∧ vs.all AV.clean0 = true then fillS σ p n (es.set i vs) ps else none := rfl
def clO (m : Nat → Option Blk) (C : Option Ctr) : Option (List AV) → Option Res
  | some vs => callR m C vs
  | none => none
theorem clO_some (m : Nat → Option Blk) (C : Option Ctr) (vs : List AV) : clO m C (some vs) = callR m C vs := rfl
def clP : Bool → Option (Prop × AV × List AV) → Option Res
  | true, some (q, r, _) => (match r.clean2 with
    | true => some ⟨[q], [], r, [], none, []⟩
    | false => none)
  | _, _ => none
def clQ (q : Prop) (r : AV) : Bool → Option Res
  | true => some ⟨[q], [], r, [], none, []⟩
  | false => none
theorem clQ_true (q : Prop) (r : AV) : clQ q r true = some ⟨[q], [], r, [], none, []⟩ := rfl
theorem clP_some (q : Prop) (r : AV) (cs : List AV) : clP true (some (q, r, cs)) = clQ q r r.clean2 := by
  simp only [clP]; cases r.clean2 <;> rfl
def clS (r : Nat) (fn : List AV → List AV → Option (Prop × AV × List AV)) (vs : List AV) : Option Blk → Bool → Option Res
  | some (.cells cs), true => (match cs.all AV.clean0, fn cs vs with
    | true, some (q, v, cs') => (match v.clean2, cs'.all AV.clean0 with
      | true, true => some ⟨[q], [], v, [(r, .cells cs')], none, [r]⟩
      | _, _ => none)
    | _, _ => none)
  | _, _ => none
def clT (r : Nat) : Bool → Option (Prop × AV × List AV) → Option Res
  | true, some (q, v, cs') => (match v.clean2, cs'.all AV.clean0 with
      | true, true => some ⟨[q], [], v, [(r, .cells cs')], none, [r]⟩
      | _, _ => none)
  | _, _ => none
def clU (r : Nat) (q : Prop) (v : AV) (cs' : List AV) : Bool → Bool → Option Res
  | true, true => some ⟨[q], [], v, [(r, .cells cs')], none, [r]⟩
  | _, _ => none
theorem clS_cells (r : Nat) (fn : List AV → List AV → Option (Prop × AV × List AV)) (vs cs : List AV) : clS r fn vs (some (.cells cs)) true = clT r (cs.all AV.clean0) (fn cs vs) := by
  simp only [clS]; cases cs.all AV.clean0 <;> cases fn cs vs <;> rfl
theorem clT_some (r : Nat) (q : Prop) (v : AV) (cs' : List AV) : clT r true (some (q, v, cs')) = clU r q v cs' v.clean2 (cs'.all AV.clean0) := by
  simp only [clT]; cases v.clean2 <;> cases cs'.all AV.clean0 <;> rfl
theorem clU_true (r : Nat) (q : Prop) (v : AV) (cs' : List AV) : clU r q v cs' true true = some ⟨[q], [], v, [(r, .cells cs')], none, [r]⟩ := rfl
def condK (t e : Prop) : AV → Prop
  | .bool b => (b = true → t) ∧ (b = false → e)
  | _ => False
theorem condK_bool (t e : Prop) (b : Bool) : condK t e (.bool b) = ((b = true → t) ∧ (b = false → e)) := rfl
def kEndB (K : Exit → St → Prop) (s : Nat → AV) (m : Nat → Option Blk) : Bool → Prop
  | true => K .normal ⟨ungdS s, m⟩
  | false => K .normal ⟨s, m⟩
theorem kEndB_t (K : Exit → St → Prop) (s : Nat → AV) (m : Nat → Option Blk) : kEndB K s m true = K .normal ⟨ungdS s, m⟩ := rfl
theorem kEndB_f (K : Exit → St → Prop) (s : Nat → AV) (m : Nat → Option Blk) : kEndB K s m false = K .normal ⟨s, m⟩ := rfl
def kBlkB (K : Exit → St → Prop) (i : Nat) (σ : St) : Bool → Prop
  | true => K .normal σ
  | false => K (.exit i) σ
theorem kBlkB_t (K : Exit → St → Prop) (i : Nat) (σ : St) : kBlkB K i σ true = K .normal σ := rfl
theorem kBlkB_f (K : Exit → St → Prop) (i : Nat) (σ : St) : kBlkB K i σ false = K (.exit i) σ := rfl
def rtO (r : AV) : Option (List AV) → Prop
  | some vs => resV vs r
  | none => False
theorem rtO_some (r : AV) (vs : List AV) : rtO r (some vs) = resV vs r := rfl
def rtM (cs : List AV) : Option Blk → Prop
  | some (.cells ds) => leAs ds cs
  | _ => False
theorem rtM_cells (cs ds : List AV) : rtM cs (some (.cells ds)) = leAs ds cs := rfl
def rvP (m : Nat → Option Blk) (n : Nat) (ag : Bool) : AV → Option AV
  | .ptr r o => (match m r with
    | some (.cells cs) => valOf ag n cs o
    | _ => none)
  | _ => none
def rvB (n : Nat) (ag : Bool) (o : Nat) : Option Blk → Option AV
  | some (.cells cs) => valOf ag n cs o
  | _ => none
theorem rvP_ptr (m : Nat → Option Blk) (n : Nat) (ag : Bool) (r o : Nat) : rvP m n ag (.ptr r o) = rvB n ag o (m r) := by
  simp only [rvP]; cases m r with
  | none => rfl
  | some b => cases b <;> rfl
theorem rvB_cells (n : Nat) (ag : Bool) (o : Nat) (cs : List AV) : rvB n ag o (some (.cells cs)) = valOf ag n cs o := rfl

theorem gv_int (p : List (Nat × Bool)) (k : IntKind) (n : Int) : gv p (AV.int k n) = some (AV.int k n) := rfl
theorem ungd_int (k : IntKind) (n : Int) : ungd (AV.int k n) = (AV.int k n) := rfl
theorem gv_bool (p : List (Nat × Bool)) (b : Bool) : gv p (AV.bool b) = some (AV.bool b) := rfl
theorem ungd_bool (b : Bool) : ungd (AV.bool b) = (AV.bool b) := rfl
theorem gv_str (p : List (Nat × Bool)) (s : List UInt8) : gv p (AV.str s) = some (AV.str s) := rfl
theorem ungd_str (s : List UInt8) : ungd (AV.str s) = (AV.str s) := rfl
theorem gv_agg (p : List (Nat × Bool)) (cs : List AV) : gv p (AV.agg cs) = some (AV.agg cs) := rfl
theorem ungd_agg (cs : List AV) : ungd (AV.agg cs) = (AV.agg cs) := rfl
theorem gv_tup (p : List (Nat × Bool)) (vs : List AV) : gv p (AV.tup vs) = some (AV.tup vs) := rfl
theorem ungd_tup (vs : List AV) : ungd (AV.tup vs) = (AV.tup vs) := rfl
theorem gv_lst (p : List (Nat × Bool)) (z : List AV) (es : List (List AV)) : gv p (AV.lst z es) = some (AV.lst z es) := rfl
theorem ungd_lst (z : List AV) (es : List (List AV)) : ungd (AV.lst z es) = (AV.lst z es) := rfl
theorem gv_ep (p : List (Nat × Bool)) (z : List AV) (es : List (List AV)) (i o : Nat) : gv p (AV.ep z es i o) = some (AV.ep z es i o) := rfl
theorem ungd_ep (z : List AV) (es : List (List AV)) (i o : Nat) : ungd (AV.ep z es i o) = (AV.ep z es i o) := rfl
theorem gv_ptr (p : List (Nat × Bool)) (r o : Nat) : gv p (AV.ptr r o) = some (AV.ptr r o) := rfl
theorem ungd_ptr (r o : Nat) : ungd (AV.ptr r o) = (AV.ptr r o) := rfl
theorem gv_ap (p : List (Nat × Bool)) (r o n i : Nat) : gv p (AV.ap r o n i) = some (AV.ap r o n i) := rfl
theorem ungd_ap (r o n i : Nat) : ungd (AV.ap r o n i) = (AV.ap r o n i) := rfl
theorem gv_vw (p : List (Nat × Bool)) (r z l h : Nat) : gv p (AV.vw r z l h) = some (AV.vw r z l h) := rfl
theorem ungd_vw (r z l h : Nat) : ungd (AV.vw r z l h) = (AV.vw r z l h) := rfl
theorem gv_bp (p : List (Nat × Bool)) (r z i o : Nat) : gv p (AV.bp r z i o) = some (AV.bp r z i o) := rfl
theorem ungd_bp (r z i o : Nat) : ungd (AV.bp r z i o) = (AV.bp r z i o) := rfl
theorem gv_fr (p : List (Nat × Bool)) (i : Nat) (z : List AV) (es : List (List AV)) : gv p (AV.fr i z es) = some (AV.fr i z es) := rfl
theorem ungd_fr (i : Nat) (z : List AV) (es : List (List AV)) : ungd (AV.fr i z es) = (AV.fr i z es) := rfl
theorem gv_fn (p : List (Nat × Bool)) (f : Nat) : gv p (AV.fn f) = some (AV.fn f) := rfl
theorem ungd_fn (f : Nat) : ungd (AV.fn f) = (AV.fn f) := rfl
theorem gv_nil (p : List (Nat × Bool))  : gv p AV.nil = some AV.nil := rfl
theorem ungd_nil  : ungd AV.nil = AV.nil := rfl
theorem gv_junk (p : List (Nat × Bool))  : gv p AV.junk = some AV.junk := rfl
theorem ungd_junk  : ungd AV.junk = AV.junk := rfl
theorem ungd_gd (q : List (Nat × Bool)) (v : AV) : ungd (.gd q v) = .junk := rfl
theorem gv_gd (p q : List (Nat × Bool)) (v : AV) : gv p (.gd q v) = gvB (q.all fun x => p.contains x) v := by
  simp only [gv]; cases (q.all fun x => p.contains x) <;> rfl
theorem kill3_int (q : Nat) (k : IntKind) (n : Int) : kill3 q (AV.int k n) = (AV.int k n) := rfl
theorem kill0_int (q : Nat) (k : IntKind) (n : Int) : kill0 q (AV.int k n) = (AV.int k n) := rfl
theorem kill1_int (q : Nat) (k : IntKind) (n : Int) : kill1 q (AV.int k n) = (AV.int k n) := rfl
theorem kill3_bool (q : Nat) (b : Bool) : kill3 q (AV.bool b) = (AV.bool b) := rfl
theorem kill0_bool (q : Nat) (b : Bool) : kill0 q (AV.bool b) = (AV.bool b) := rfl
theorem kill1_bool (q : Nat) (b : Bool) : kill1 q (AV.bool b) = (AV.bool b) := rfl
theorem kill3_str (q : Nat) (s : List UInt8) : kill3 q (AV.str s) = (AV.str s) := rfl
theorem kill0_str (q : Nat) (s : List UInt8) : kill0 q (AV.str s) = (AV.str s) := rfl
theorem kill1_str (q : Nat) (s : List UInt8) : kill1 q (AV.str s) = (AV.str s) := rfl
theorem kill3_agg (q : Nat) (cs : List AV) : kill3 q (AV.agg cs) = .agg (cs.map (kill0 q)) := rfl
theorem kill1_agg (q : Nat) (cs : List AV) : kill1 q (AV.agg cs) = .agg (cs.map (kill0 q)) := rfl
theorem kill3_tup (q : Nat) (vs : List AV) : kill3 q (AV.tup vs) = .tup (vs.map (kill1 q)) := rfl
theorem kill3_lst (q : Nat) (z : List AV) (es : List (List AV)) : kill3 q (AV.lst z es) = (AV.lst z es) := rfl
theorem kill0_lst (q : Nat) (z : List AV) (es : List (List AV)) : kill0 q (AV.lst z es) = (AV.lst z es) := rfl
theorem kill1_lst (q : Nat) (z : List AV) (es : List (List AV)) : kill1 q (AV.lst z es) = (AV.lst z es) := rfl
theorem kill3_ep (q : Nat) (z : List AV) (es : List (List AV)) (i o : Nat) : kill3 q (AV.ep z es i o) = (AV.ep z es i o) := rfl
theorem kill0_ep (q : Nat) (z : List AV) (es : List (List AV)) (i o : Nat) : kill0 q (AV.ep z es i o) = (AV.ep z es i o) := rfl
theorem kill1_ep (q : Nat) (z : List AV) (es : List (List AV)) (i o : Nat) : kill1 q (AV.ep z es i o) = (AV.ep z es i o) := rfl
theorem kill3_ptr (q : Nat) (r o : Nat) : kill3 q (AV.ptr r o) = if r = q then .junk else (AV.ptr r o) := rfl
theorem kill0_ptr (q : Nat) (r o : Nat) : kill0 q (AV.ptr r o) = if r = q then .junk else (AV.ptr r o) := rfl
theorem kill3_ap (q : Nat) (r o n i : Nat) : kill3 q (AV.ap r o n i) = if r = q then .junk else (AV.ap r o n i) := rfl
theorem kill0_ap (q : Nat) (r o n i : Nat) : kill0 q (AV.ap r o n i) = if r = q then .junk else (AV.ap r o n i) := rfl
theorem kill3_vw (q : Nat) (r z l h : Nat) : kill3 q (AV.vw r z l h) = if r = q then .junk else (AV.vw r z l h) := rfl
theorem kill0_vw (q : Nat) (r z l h : Nat) : kill0 q (AV.vw r z l h) = if r = q then .junk else (AV.vw r z l h) := rfl
theorem kill3_bp (q : Nat) (r z i o : Nat) : kill3 q (AV.bp r z i o) = if r = q then .junk else (AV.bp r z i o) := rfl
theorem kill0_bp (q : Nat) (r z i o : Nat) : kill0 q (AV.bp r z i o) = if r = q then .junk else (AV.bp r z i o) := rfl
theorem kill3_fr (q : Nat) (i : Nat) (z : List AV) (es : List (List AV)) : kill3 q (AV.fr i z es) = (AV.fr i z es) := rfl
theorem kill0_fr (q : Nat) (i : Nat) (z : List AV) (es : List (List AV)) : kill0 q (AV.fr i z es) = (AV.fr i z es) := rfl
theorem kill1_fr (q : Nat) (i : Nat) (z : List AV) (es : List (List AV)) : kill1 q (AV.fr i z es) = (AV.fr i z es) := rfl
theorem kill3_fn (q : Nat) (f : Nat) : kill3 q (AV.fn f) = (AV.fn f) := rfl
theorem kill0_fn (q : Nat) (f : Nat) : kill0 q (AV.fn f) = (AV.fn f) := rfl
theorem kill1_fn (q : Nat) (f : Nat) : kill1 q (AV.fn f) = (AV.fn f) := rfl
theorem kill3_nil (q : Nat)  : kill3 q AV.nil = AV.nil := rfl
theorem kill0_nil (q : Nat)  : kill0 q AV.nil = AV.nil := rfl
theorem kill1_nil (q : Nat)  : kill1 q AV.nil = AV.nil := rfl
theorem kill3_junk (q : Nat)  : kill3 q AV.junk = AV.junk := rfl
theorem kill0_junk (q : Nat)  : kill0 q AV.junk = AV.junk := rfl
theorem kill1_junk (q : Nat)  : kill1 q AV.junk = AV.junk := rfl
theorem leA_int (k : IntKind) (n : Int) (y : AV) : leA (AV.int k n) y = ((AV.int k n) = y) := rfl
theorem leV1_int (k : IntKind) (n : Int) (y : AV) : leV1 (AV.int k n) y = ((AV.int k n) = y) := rfl
theorem leA_bool (b : Bool) (y : AV) : leA (AV.bool b) y = ((AV.bool b) = y) := rfl
theorem leV1_bool (b : Bool) (y : AV) : leV1 (AV.bool b) y = ((AV.bool b) = y) := rfl
theorem leA_str (s : List UInt8) (y : AV) : leA (AV.str s) y = ((AV.str s) = y) := rfl
theorem leV1_str (s : List UInt8) (y : AV) : leV1 (AV.str s) y = ((AV.str s) = y) := rfl
theorem leA_agg (cs : List AV) (y : AV) : leA (AV.agg cs) y = ((AV.agg cs) = y) := rfl
theorem leA_tup (vs : List AV) (y : AV) : leA (AV.tup vs) y = ((AV.tup vs) = y) := rfl
theorem leV1_tup (vs : List AV) (y : AV) : leV1 (AV.tup vs) y = ((AV.tup vs) = y) := rfl
theorem leA_lst (z : List AV) (es : List (List AV)) (y : AV) : leA (AV.lst z es) y = ((AV.lst z es) = y) := rfl
theorem leV1_lst (z : List AV) (es : List (List AV)) (y : AV) : leV1 (AV.lst z es) y = ((AV.lst z es) = y) := rfl
theorem leA_ep (z : List AV) (es : List (List AV)) (i o : Nat) (y : AV) : leA (AV.ep z es i o) y = ((AV.ep z es i o) = y) := rfl
theorem leV1_ep (z : List AV) (es : List (List AV)) (i o : Nat) (y : AV) : leV1 (AV.ep z es i o) y = ((AV.ep z es i o) = y) := rfl
theorem leA_ptr (r o : Nat) (y : AV) : leA (AV.ptr r o) y = ((AV.ptr r o) = y) := rfl
theorem leV1_ptr (r o : Nat) (y : AV) : leV1 (AV.ptr r o) y = ((AV.ptr r o) = y) := rfl
theorem leA_ap (r o n i : Nat) (y : AV) : leA (AV.ap r o n i) y = ((AV.ap r o n i) = y) := rfl
theorem leV1_ap (r o n i : Nat) (y : AV) : leV1 (AV.ap r o n i) y = ((AV.ap r o n i) = y) := rfl
theorem leA_vw (r z l h : Nat) (y : AV) : leA (AV.vw r z l h) y = ((AV.vw r z l h) = y) := rfl
theorem leV1_vw (r z l h : Nat) (y : AV) : leV1 (AV.vw r z l h) y = ((AV.vw r z l h) = y) := rfl
theorem leA_bp (r z i o : Nat) (y : AV) : leA (AV.bp r z i o) y = ((AV.bp r z i o) = y) := rfl
theorem leV1_bp (r z i o : Nat) (y : AV) : leV1 (AV.bp r z i o) y = ((AV.bp r z i o) = y) := rfl
theorem leA_fr (i : Nat) (z : List AV) (es : List (List AV)) (y : AV) : leA (AV.fr i z es) y = ((AV.fr i z es) = y) := rfl
theorem leV1_fr (i : Nat) (z : List AV) (es : List (List AV)) (y : AV) : leV1 (AV.fr i z es) y = ((AV.fr i z es) = y) := rfl
theorem leA_fn (f : Nat) (y : AV) : leA (AV.fn f) y = ((AV.fn f) = y) := rfl
theorem leV1_fn (f : Nat) (y : AV) : leV1 (AV.fn f) y = ((AV.fn f) = y) := rfl
theorem leA_junk  (y : AV) : leA AV.junk y = (AV.junk = y) := rfl
theorem leV1_junk  (y : AV) : leV1 AV.junk y = (AV.junk = y) := rfl
theorem leA_nil (z : List AV) (es : List (List AV)) : leA .nil (.lst z es) = (es = []) := rfl
theorem leA_nilnil : leA .nil .nil = True := propext (iff_true_intro rfl)
theorem leV1_agg (xs ys : List AV) : leV1 (.agg xs) (.agg ys) = leAs xs ys := rfl
theorem leV1_nil (y : AV) : leV1 .nil y = leA .nil y := rfl
theorem leAs_nil : leAs [] [] = True := rfl
theorem leAs_cons (x y : AV) (xs ys : List AV) : leAs (x :: xs) (y :: ys) = (leA x y ∧ leAs xs ys) := rfl
theorem leVs_nil : leVs [] [] = True := rfl
theorem leVs_cons (x y : AV) (xs ys : List AV) : leVs (x :: xs) (y :: ys) = (leV1 x y ∧ leVs xs ys) := rfl
theorem resV_one (v r : AV) : resV [v] r = leV1 v r := rfl
theorem resV_two (x y : AV) (zs ys : List AV) : resV (x :: y :: zs) (.tup ys) = leVs (x :: y :: zs) ys := rfl
theorem evOps_nil (Φ : Nat → Option Ctr) (σ : St) (K : St → Prop) : evOps Φ [] σ K = K σ := rfl
theorem evOps_cons (Φ : Nat → Option Ctr) (dst : Option Nat) (op : IOp) (g : Option (Nat × Bool)) (af : List Nat) (rest : List RO) (σ : St) (K : St → Prop) : evOps Φ (⟨dst, op, g, af⟩ :: rest) σ K = goOp Φ rest K σ dst (evG Φ ⟨dst, op, g, af⟩ σ) := by
  simp only [evOps]; cases evG Φ ⟨dst, op, g, af⟩ σ <;> rfl
theorem goOp_some (Φ : Nat → Option Ctr) (rest : List RO) (K : St → Prop) (σ : St) (dst : Option Nat) (p q : List Prop) (v : AV) (us : List (Nat × Blk)) (nw : Option Blk) (t : List Nat) : goOp Φ rest K σ dst (some ⟨p, q, v, us, nw, t⟩) = askL p (knowL q (evOps Φ rest (σ.put dst ⟨p, q, v, us, nw, t⟩) K)) := rfl
theorem evG_no (Φ : Nat → Option Ctr) (dst : Option Nat) (op : IOp) (af : List Nat) (σ : St) : evG Φ ⟨dst, op, none, af⟩ σ = evOp Φ op (dst.getD 0) [] σ := rfl
theorem evG_yes (Φ : Nat → Option Ctr) (dst : Option Nat) (op : IOp) (g : Nat) (b : Bool) (af : List Nat) (σ : St) : evG Φ ⟨dst, op, some (g, b), af⟩ σ = gG Φ op (dst.getD 0) σ (pathG g b (σ.s g)) := by
  simp only [evG]; cases pathG g b (σ.s g) <;> rfl
theorem gG_some (Φ : Nat → Option Ctr) (op : IOp) (d : Nat) (σ : St) (p : List (Nat × Bool)) : gG Φ op d σ (some p) = guardR σ p (evOp Φ op d p σ) := rfl
theorem pathG_bool (g : Nat) (b c : Bool) : pathG g b (.bool c) = some [(g, b)] := rfl
theorem pathG_gd (g : Nat) (b c : Bool) (q : List (Nat × Bool)) : pathG g b (.gd q (.bool c)) = some (q ++ [(g, b)]) := rfl
theorem guardR_q (σ : St) (p : List (Nat × Bool)) (pre post : List Prop) (v : AV) (t : List Nat) : guardR σ p (some ⟨pre, post, v, [], none, t⟩) = some ⟨guardL σ.s p pre, [], .gd p v, [], none, t⟩ := rfl
theorem guardR_u (σ : St) (e : Nat × Bool) (pre post : List Prop) (v : AV) (u : Nat × Blk) (us : List (Nat × Blk)) (t : List Nat) : guardR σ [e] (some ⟨pre, post, v, u :: us, none, t⟩) = guardU σ e pre v t (mergeU (pathB σ.s [e]) σ.m (u :: us)) := by
  simp only [guardR]; cases mergeU (pathB σ.s [e]) σ.m (u :: us) <;> rfl
theorem guardU_some (σ : St) (e : Nat × Bool) (pre : List Prop) (v : AV) (t : List Nat) (us : List (Nat × Blk)) : guardU σ e pre v t (some us) = some ⟨guardL σ.s [e] pre, [], .gd [e] v, us, none, t⟩ := rfl
theorem guardL_nil (s : Nat → AV) (p : List (Nat × Bool)) : guardL s p [] = [] := rfl
theorem guardL_cons (s : Nat → AV) (p : List (Nat × Bool)) (q : Prop) (qs : List Prop) : guardL s p (q :: qs) = (pathP s p → q) :: guardL s p qs := rfl
theorem pathP_nil (s : Nat → AV) : pathP s [] = True := rfl
theorem pathP_cons (s : Nat → AV) (g : Nat) (b : Bool) (p : List (Nat × Bool)) : pathP s ((g, b) :: p) = (boolOf (s g) = some b ∧ pathP s p) := rfl
theorem pathB_nil (s : Nat → AV) : pathB s [] = true := rfl
theorem pathB_cons (s : Nat → AV) (g : Nat) (b : Bool) (p : List (Nat × Bool)) : pathB s ((g, b) :: p) = (beqO b (boolOf (s g)) && pathB s p) := by
  simp only [pathB]; cases boolOf (s g) <;> rfl
theorem boolOf_bool (c : Bool) : boolOf (.bool c) = some c := rfl
theorem boolOf_gd (q : List (Nat × Bool)) (c : Bool) : boolOf (.gd q (.bool c)) = some c := rfl
theorem askL_nil (K : Prop) : askL [] K = K := rfl
theorem askL_cons (q : Prop) (qs : List Prop) (K : Prop) : askL (q :: qs) K = (q ∧ askL qs K) := rfl
theorem knowL_nil (K : Prop) : knowL [] K = K := rfl
theorem knowL_cons (q : Prop) (qs : List Prop) (K : Prop) : knowL (q :: qs) K = (q → knowL qs K) := rfl
theorem put_q (s : Nat → AV) (m : Nat → Option Blk) (d : Nat) (p q : List Prop) (v : AV) (t : List Nat) : St.put ⟨s, m⟩ (some d) ⟨p, q, v, [], none, t⟩ = ⟨upd s d v, m⟩ := rfl
theorem put_u (s : Nat → AV) (m : Nat → Option Blk) (d : Nat) (p q : List Prop) (v : AV) (r : Nat) (b : Blk) (t : List Nat) : St.put ⟨s, m⟩ (some d) ⟨p, q, v, [(r, b)], none, t⟩ = ⟨upd s d v, updM m r (some b)⟩ := rfl
theorem put_n (s : Nat → AV) (m : Nat → Option Blk) (d : Nat) (p q : List Prop) (v : AV) (b : Blk) (t : List Nat) : St.put ⟨s, m⟩ (some d) ⟨p, q, v, [], some b, t⟩ = ⟨upd (killS (64 * d) s) d v, updM (killM (64 * d) m) (64 * d) (some (killB (64 * d) b))⟩ := rfl
theorem put_s (s : Nat → AV) (m : Nat → Option Blk) (p q : List Prop) (v : AV) (r : Nat) (b : Blk) (t : List Nat) : St.put ⟨s, m⟩ none ⟨p, q, v, [(r, b)], none, t⟩ = ⟨s, updM m r (some b)⟩ := rfl
theorem upd_at (s : Nat → AV) (d : Nat) (v : AV) (k : Nat) : upd s d v k = if k = d then v else s k := rfl
theorem updM_at (m : Nat → Option Blk) (d : Nat) (v : Option Blk) (k : Nat) : updM m d v k = if k = d then v else m k := rfl
theorem killS_at (r : Nat) (s : Nat → AV) (k : Nat) : killS r s k = kill3 r (s k) := rfl
theorem ungdS_at (s : Nat → AV) (k : Nat) : ungdS s k = ungd (s k) := rfl
theorem killM_at (r : Nat) (m : Nat → Option Blk) (k : Nat) : killM r m k = killO r (m k) := by
  simp only [killM]; cases m k <;> rfl
theorem killB_cells (r : Nat) (cs : List AV) : killB r (.cells cs) = .cells (cs.map (kill0 r)) := rfl
theorem kill3_gd' (r : Nat) (q : List (Nat × Bool)) (v : AV) : kill3 r (.gd q v) = .gd q (kill2 r v) := rfl
theorem av_t (s : Nat → AV) (m : Nat → Option Blk) (p : List (Nat × Bool)) (n : Nat) : av ⟨s, m⟩ p (.t n) = gv p (s n) := rfl
theorem av_c (σ : St) (p : List (Nat × Bool)) (v : AV) : av σ p (.c v) = gv p v := rfl
theorem ar_t (s : Nat → AV) (m : Nat → Option Blk) (n : Nat) : ar ⟨s, m⟩ (.t n) = s n := rfl
theorem ar_c (σ : St) (v : AV) : ar σ (.c v) = v := rfl
theorem avs_nil (σ : St) (p : List (Nat × Bool)) : avs σ p [] = some [] := rfl
theorem avs_cons (σ : St) (p : List (Nat × Bool)) (x : A) (xs : List A) : avs σ p (x :: xs) = consO (av σ p x) (avs σ p xs) := by
  simp only [avs]; cases av σ p x <;> cases avs σ p xs <;> rfl
theorem bind1_some' (v : AV) (f : AV → Option Res) : bind1 (some v) f = f v := rfl
theorem bind2_some' (v w : AV) (f : AV → AV → Option Res) : bind2 (some v) (some w) f = f v w := rfl
theorem ev_mov (Φ : Nat → Option Ctr) (x : A) (d : Nat) (p : List (Nat × Bool)) (σ : St) : evOp Φ (.mov x) d p σ = bind1 (av σ p x) (un1 (.mov x)) := rfl
theorem ev_not (Φ : Nat → Option Ctr) (x : A) (d : Nat) (p : List (Nat × Bool)) (σ : St) : evOp Φ (.not x) d p σ = bind1 (av σ p x) (un1 (.not x)) := rfl
theorem ev_neg (Φ : Nat → Option Ctr) (x : A) (d : Nat) (p : List (Nat × Bool)) (σ : St) : evOp Φ (.neg x) d p σ = bind1 (av σ p x) (un1 (.neg x)) := rfl
theorem ev_conv (Φ : Nat → Option Ctr) (k : IntKind) (x : A) (d : Nat) (p : List (Nat × Bool)) (σ : St) : evOp Φ (.conv k x) d p σ = bind1 (av σ p x) (un1 (.conv k x)) := rfl
theorem ev_extract (Φ : Nat → Option Ctr) (i : Nat) (x : A) (d : Nat) (p : List (Nat × Bool)) (σ : St) : evOp Φ (.extract i x) d p σ = bind1 (av σ p x) (un1 (.extract i x)) := rfl
theorem ev_nilchk (Φ : Nat → Option Ctr) (x : A) (d : Nat) (p : List (Nat × Bool)) (σ : St) : evOp Φ (.nilchk x) d p σ = bind1 (av σ p x) (un1 (.nilchk x)) := rfl
theorem un1_mov (x : A) (v : AV) : un1 (.mov x) v = some ⟨[], [], v, [], none, []⟩ := rfl
theorem un1_not (x : A) (b : Bool) : un1 (.not x) (.bool b) = some ⟨[], [], .bool !b, [], none, []⟩ := rfl
theorem un1_neg (x : A) (k : IntKind) (n : Int) : un1 (.neg x) (.int k n) = some ⟨[], [], .int k (k.wrap (0 - n)), [], none, []⟩ := rfl
theorem un1_conv (x : A) (k k' : IntKind) (n : Int) : un1 (.conv k x) (.int k' n) = some ⟨[], [], .int k (k.wrap n), [], none, []⟩ := rfl
theorem un1_nilchk (x : A) (r o : Nat) : un1 (.nilchk x) (.ptr r o) = some ⟨[], [], .ptr r o, [], none, []⟩ := rfl
theorem un1_extract (i : Nat) (x : A) (vs : List AV) : un1 (.extract i x) (.tup vs) = toR vs[i]? := by
  simp only [un1]; cases vs[i]? <;> rfl
theorem toR_some' (v : AV) : toR (some v) = some ⟨[], [], v, [], none, []⟩ := rfl
theorem ev_pick (Φ : Nat → Option Ctr) (k : Nat) (a b : A) (d : Nat) (p : List (Nat × Bool)) (σ : St) : evOp Φ (.pick (.t k) a b) d p σ = pick3 (av σ p (.t k)) (av σ (p ++ [(k, true)]) a) (av σ (p ++ [(k, false)]) b) := by
  simp only [evOp, slotOf]; cases av σ p (.t k) <;> cases av σ (p ++ [(k, true)]) a <;> cases av σ (p ++ [(k, false)]) b <;> rfl
theorem pick3_some (c a b : AV) : pick3 (some c) (some a) (some b) = pickV c a b := rfl
theorem pickV_bool (c a b : Bool) : pickV (.bool c) (.bool a) (.bool b) = some ⟨[], [], .bool (bif c then a else b), [], none, []⟩ := rfl
theorem ev_arith (Φ : Nat → Option Ctr) (op : BinOp) (x y : A) (d : Nat) (p : List (Nat × Bool)) (σ : St) : evOp Φ (.arith op x y) d p σ = bind2 (av σ p x) (av σ p y) (arithR op) := rfl
theorem arith_add (k : IntKind) (a b : Int) : arithR .add (.int k a) (.int k b) = some ⟨[], [], .int k (k.wrap (a + b)), [], none, []⟩ := by
  simp only [arithR, if_true]; rfl
theorem arith_sub (k : IntKind) (a b : Int) : arithR .sub (.int k a) (.int k b) = some ⟨[], [], .int k (k.wrap (a - b)), [], none, []⟩ := by
  simp only [arithR, if_true]; rfl
theorem arith_mul (k : IntKind) (a b : Int) : arithR .mul (.int k a) (.int k b) = some ⟨[], [], .int k (k.wrap (a * b)), [], none, []⟩ := by
  simp only [arithR, if_true]; rfl
theorem arith_and (k : IntKind) (a b : Int) : arithR .and (.int k a) (.int k b) = some ⟨[], [], .int k (bitsI .and k a b), [], none, []⟩ := by
  simp only [arithR, if_true]; rfl
theorem arith_or (k : IntKind) (a b : Int) : arithR .or (.int k a) (.int k b) = some ⟨[], [], .int k (bitsI .or k a b), [], none, []⟩ := by
  simp only [arithR, if_true]; rfl
theorem arith_xor (k : IntKind) (a b : Int) : arithR .xor (.int k a) (.int k b) = some ⟨[], [], .int k (bitsI .xor k a b), [], none, []⟩ := by
  simp only [arithR, if_true]; rfl
theorem arith_andNot (k : IntKind) (a b : Int) : arithR .andNot (.int k a) (.int k b) = some ⟨[], [], .int k (bitsI .andNot k a b), [], none, []⟩ := by
  simp only [arithR, if_true]; rfl
theorem arith_quo (k : IntKind) (a b : Int) : arithR .quo (.int k a) (.int k b) = some ⟨[b ≠ 0], [], .int k (k.wrap (a.tdiv b)), [], none, []⟩ := by
  simp only [arithR, if_true]; rfl
theorem arith_rem (k : IntKind) (a b : Int) : arithR .rem (.int k a) (.int k b) = some ⟨[b ≠ 0], [], .int k (a.tmod b), [], none, []⟩ := by
  simp only [arithR, if_true]; rfl
theorem ev_cmp (Φ : Nat → Option Ctr) (op : BinOp) (ty : Nat) (x y : A) (d : Nat) (p : List (Nat × Bool)) (σ : St) : evOp Φ (.cmp op ty x y) d p σ = cmp2 op ty (av σ p x) (av σ p y) := by
  simp only [evOp]; cases av σ p x <;> cases av σ p y <;> rfl
theorem cmp2_some (op : BinOp) (ty : Nat) (v w : AV) : cmp2 op ty (some v) (some w) = toR (cmpR op ty v w) := rfl
theorem cmp_eql (k : IntKind) (a b : Int) : cmpR .eql 0 (.int k a) (.int k b) = some (.bool (decide (a = b))) := by
  simp only [cmpR, if_true]
theorem cmp_neq (k : IntKind) (a b : Int) : cmpR .neq 0 (.int k a) (.int k b) = some (.bool (!decide (a = b))) := by
  simp only [cmpR, if_true]
theorem cmp_lss (k : IntKind) (a b : Int) : cmpR .lss 0 (.int k a) (.int k b) = some (.bool (decide (a < b))) := by
  simp only [cmpR, if_true]
theorem cmp_leq (k : IntKind) (a b : Int) : cmpR .leq 0 (.int k a) (.int k b) = some (.bool (decide (a ≤ b))) := by
  simp only [cmpR, if_true]
theorem cmp_gtr (k : IntKind) (a b : Int) : cmpR .gtr 0 (.int k a) (.int k b) = some (.bool (decide (b < a))) := by
  simp only [cmpR, if_true]
theorem cmp_geq (k : IntKind) (a b : Int) : cmpR .geq 0 (.int k a) (.int k b) = some (.bool (decide (b ≤ a))) := by
  simp only [cmpR, if_true]
theorem cmp_eqlB (a b : Bool) : cmpR .eql 1 (.bool a) (.bool b) = some (.bool (a == b)) := rfl
theorem cmp_neqB (a b : Bool) : cmpR .neq 1 (.bool a) (.bool b) = some (.bool (!(a == b))) := rfl
theorem cmp_eqlS (a b : List UInt8) : cmpR .eql 2 (.str a) (.str b) = some (.bool (decide (a = b))) := rfl
theorem cmp_neqS (a b : List UInt8) : cmpR .neq 2 (.str a) (.str b) = some (.bool (!decide (a = b))) := rfl
theorem ev_eqa (Φ : Nat → Option Ctr) (ng : Bool) (sh : List Nat) (x y : A) (d : Nat) (p : List (Nat × Bool)) (σ : St) : evOp Φ (.eqa ng sh x y) d p σ = eqa2 ng sh (av σ p x) (av σ p y) := by
  simp only [evOp]; cases av σ p x <;> cases av σ p y <;> rfl
theorem eqa2_some (ng : Bool) (sh : List Nat) (v w : AV) : eqa2 ng sh (some v) (some w) = toR (eqaR ng sh v w) := rfl
theorem eqaR_agg (ng : Bool) (sh : List Nat) (xs ys : List AV) : eqaR ng sh (.agg xs) (.agg ys) = eqaB ng (eqCells sh xs ys) := by
  simp only [eqaR]; cases eqCells sh xs ys <;> rfl
theorem eqC_nil : eqCells [] [] [] = some true := rfl
theorem eqC_int (sh : List Nat) (k : IntKind) (a b : Int) (xs ys : List AV) : eqCells (0 :: sh) (.int k a :: xs) (.int k b :: ys) = andO (decide (a = b)) (eqCells sh xs ys) := by
  simp only [eqCells, if_true]; cases eqCells sh xs ys <;> rfl
theorem eqC_bool (sh : List Nat) (a b : Bool) (xs ys : List AV) : eqCells (1 :: sh) (.bool a :: xs) (.bool b :: ys) = andO (a == b) (eqCells sh xs ys) := by
  simp only [eqCells]; cases eqCells sh xs ys <;> rfl
theorem eqC_str (sh : List Nat) (a b : List UInt8) (xs ys : List AV) : eqCells (2 :: sh) (.str a :: xs) (.str b :: ys) = andO (decide (a = b)) (eqCells sh xs ys) := by
  simp only [eqCells]; cases eqCells sh xs ys <;> rfl
theorem ev_len (Φ : Nat → Option Ctr) (ty : Nat) (x : A) (d : Nat) (p : List (Nat × Bool)) (σ : St) : evOp Φ (.len ty x) d p σ = bind1 (av σ p x) (lenR ty) := rfl
theorem len_lst (z : List AV) (es : List (List AV)) : lenR 0 (.lst z es) = some ⟨[], [es.length ≤ 9223372036854775807], .int .i64 es.length, [], none, []⟩ := rfl
theorem len_nil : lenR 0 .nil = some ⟨[], [], .int .i64 0, [], none, []⟩ := rfl
theorem len_str (s : List UInt8) : lenR 1 (.str s) = some ⟨[], [], .int .i64 s.length, [], none, []⟩ := rfl
theorem ev_minmax (Φ : Nat → Option Ctr) (mx : Bool) (xs : List A) (d : Nat) (p : List (Nat × Bool)) (σ : St) : evOp Φ (.minmax mx xs) d p σ = mmO mx (avs σ p xs) := by
  simp only [evOp]; cases avs σ p xs with
  | none => rfl
  | some vs => cases vs with
    | nil => rfl
    | cons x xs => cases x <;> rfl
theorem mm_nil (mx : Bool) (v : AV) : minmaxL mx v [] = some v := rfl
theorem mm_max (k : IntKind) (a b : Int) (vs : List AV) : minmaxL true (.int k a) (.int k b :: vs) = minmaxL true (.int k (max a b)) vs := by
  simp only [minmaxL, minmaxR, if_true]
  have : (if b > a then b else a) = max a b := by omega
  rw [this]
theorem mm_min (k : IntKind) (a b : Int) (vs : List AV) : minmaxL false (.int k a) (.int k b :: vs) = minmaxL false (.int k (min a b)) vs := by
  simp only [minmaxL, minmaxR, if_true]
  have : (if b < a then b else a) = min a b := by omega
  rw [this]
theorem ev_faddr (Φ : Nat → Option Ctr) (off : Nat) (x : A) (d : Nat) (p : List (Nat × Bool)) (σ : St) : evOp Φ (.faddr off x) d p σ = bind1 (av σ p x) (faddrR off) := rfl
theorem faddr_ptr (off r o : Nat) : faddrR off (.ptr r o) = some ⟨[], [], .ptr r (o + off), [], none, []⟩ := rfl
theorem faddr_ep (off : Nat) (z : List AV) (es : List (List AV)) (i o : Nat) : faddrR off (.ep z es i o) = some ⟨[], [], .ep z es i (o + off), [], none, []⟩ := rfl
theorem ev_iaddrS (Φ : Nat → Option Ctr) (sz : List AV) (x i : A) (d : Nat) (p : List (Nat × Bool)) (σ : St) : evOp Φ (.iaddrS sz x i) d p σ = bind2 (av σ p x) (av σ p i) (iaddrSR sz) := rfl
theorem iaddrS_lst (zero z : List AV) (es : List (List AV)) (k : IntKind) (n : Int) : iaddrSR zero (.lst z es) (.int k n) = iasB zero es n (z.length == zero.length) := by
  simp only [iaddrSR]; by_cases h : z.length = zero.length
  · rw [if_pos h, beq_iff_eq.2 h]; rfl
  · rw [if_neg h, beq_eq_false_iff_ne.2 h]; rfl
theorem ev_iaddrA (Φ : Nat → Option Ctr) (n sz : Nat) (x i : A) (d : Nat) (p : List (Nat × Bool)) (σ : St) : evOp Φ (.iaddrA n sz x i) d p σ = iaA n sz i (av σ p x) := by
  simp only [evOp]; cases av σ p x <;> rfl
theorem iaddrA_ptr (n sz r o : Nat) (k : IntKind) (j : Int) : iaddrAR n sz (.ptr r o) (.c (.int k j)) = some ⟨[0 ≤ j ∧ j < n], [], .ptr r (o + j.toNat * sz), [], none, []⟩ := rfl
theorem ev_load (Φ : Nat → Option Ctr) (n : Nat) (ag : Bool) (x : A) (d : Nat) (p : List (Nat × Bool)) (σ : St) : evOp Φ (.load n ag x) d p σ = bind1 (av σ p x) (loadR σ.m n ag) := rfl
theorem load_ptr (m : Nat → Option Blk) (n : Nat) (ag : Bool) (r o : Nat) : loadR m n ag (.ptr r o) = ldB n ag o r (m r) := by
  simp only [loadR]; cases m r with
  | none => rfl
  | some b => cases b <;> rfl
theorem load_ep (m : Nat → Option Blk) (n : Nat) (ag : Bool) (z : List AV) (es : List (List AV)) (i o : Nat) : loadR m n ag (.ep z es i o) = ldV [] (valOf ag n (getE z es i) o) := by
  simp only [loadR]; cases valOf ag n (getE z es i) o <;> rfl
theorem valOf_agg (n : Nat) (cs : List AV) (off : Nat) : valOf true n cs off = valB n cs off (decide (off + n ≤ cs.length)) := by
  simp only [valOf]; by_cases h : off + n ≤ cs.length
  · rw [if_pos h, decide_eq_true h]; rfl
  · rw [if_neg h, decide_eq_false h]; rfl
theorem valOf_one (cs : List AV) (off : Nat) : valOf false 1 cs off = cs[off]? := rfl
theorem ev_store (Φ : Nat → Option Ctr) (n : Nat) (x v : A) (d : Nat) (p : List (Nat × Bool)) (σ : St) : evOp Φ (.store n x v) d p σ = bind2 (av σ p x) (av σ p v) (storeR σ.m n) := rfl
theorem store_ptr (m : Nat → Option Blk) (n : Nat) (r o : Nat) (v : AV) : storeR m n (.ptr r o) v = stB n o r (cellsOfAV n v) (m r) := by
  simp only [storeR]; cases cellsOfAV n v with
  | none => rfl
  | some vs => cases m r with
    | none => rfl
    | some b => cases b with
      | buf => rfl
      | cells cs =>
        simp only [stB]
        by_cases h : o + n ≤ cs.length
        · rw [if_pos h, decide_eq_true h]
        · rw [if_neg h, decide_eq_false h]
theorem setC_nil (cs : List AV) (o : Nat) : setCells cs o [] = cs := rfl
theorem setC_cons (cs : List AV) (o : Nat) (v : AV) (vs : List AV) : setCells cs o (v :: vs) = setCells (cs.set o v) (o + 1) vs := rfl
theorem cells_agg (n : Nat) (cs : List AV) : cellsOfAV n (.agg cs) = if cs.length = n then some cs else none := rfl
theorem cells_int (k : IntKind) (n : Int) : cellsOfAV 1 (AV.int k n) = some [(AV.int k n)] := rfl
theorem cells_bool (b : Bool) : cellsOfAV 1 (AV.bool b) = some [(AV.bool b)] := rfl
theorem cells_str (s : List UInt8) : cellsOfAV 1 (AV.str s) = some [(AV.str s)] := rfl
theorem cells_lst (z : List AV) (es : List (List AV)) : cellsOfAV 1 (AV.lst z es) = some [(AV.lst z es)] := rfl
theorem cells_ep (z : List AV) (es : List (List AV)) (i o : Nat) : cellsOfAV 1 (AV.ep z es i o) = some [(AV.ep z es i o)] := rfl
theorem cells_ptr (r o : Nat) : cellsOfAV 1 (AV.ptr r o) = some [(AV.ptr r o)] := rfl
theorem cells_ap (r o n i : Nat) : cellsOfAV 1 (AV.ap r o n i) = some [(AV.ap r o n i)] := rfl
theorem cells_vw (r z l h : Nat) : cellsOfAV 1 (AV.vw r z l h) = some [(AV.vw r z l h)] := rfl
theorem cells_bp (r z i o : Nat) : cellsOfAV 1 (AV.bp r z i o) = some [(AV.bp r z i o)] := rfl
theorem cells_fr (i : Nat) (z : List AV) (es : List (List AV)) : cellsOfAV 1 (AV.fr i z es) = some [(AV.fr i z es)] := rfl
theorem cells_fn (f : Nat) : cellsOfAV 1 (AV.fn f) = some [(AV.fn f)] := rfl
theorem cells_nil  : cellsOfAV 1 AV.nil = some [AV.nil] := rfl
theorem ev_alloc (Φ : Nat → Option Ctr) (z : List AV) (d : Nat) (p : List (Nat × Bool)) (σ : St) : evOp Φ (.alloc z) d p σ = some ⟨[], [], .ptr (64 * d) 0, [], some (.cells z), []⟩ := rfl
theorem ev_box (Φ : Nat → Option Ctr) (n : Nat) (x : A) (d : Nat) (p : List (Nat × Bool)) (σ : St) : evOp Φ (.box n x) d p σ = bind1 (av σ p x) (boxR n d) := rfl
theorem boxR_eq (n d : Nat) (v : AV) : boxR n d v = bxO d (cellsOfAV n v) := by
  simp only [boxR]; cases cellsOfAV n v <;> rfl
theorem ev_build (Φ : Nat → Option Ctr) (z : List AV) (ps : List (Nat × Nat × A)) (d : Nat) (p : List (Nat × Bool)) (σ : St) : evOp Φ (.build z ps) d p σ = blO (fillA σ p z ps) := by
  simp only [evOp]; cases fillA σ p z ps <;> rfl
theorem ev_bslice (Φ : Nat → Option Ctr) (n : Nat) (z : List AV) (ps : List (Nat × A)) (d : Nat) (p : List (Nat × Bool)) (σ : St) : evOp Φ (.bslice n z ps) d p σ = blS z (fillS σ p z.length (List.replicate n z) ps) := by
  simp only [evOp]; cases fillS σ p z.length (List.replicate n z) ps <;> rfl
theorem fillA_nil (σ : St) (p : List (Nat × Bool)) (cs : List AV) : fillA σ p cs [] = some cs := rfl
theorem fillA_cons (σ : St) (p : List (Nat × Bool)) (cs : List AV) (off n : Nat) (x : A) (ps : List (Nat × Nat × A)) : fillA σ p cs ((off, n, x) :: ps) = faK σ p cs off n ps (av σ p x) := by
  simp only [fillA]; cases av σ p x <;> rfl
theorem fillS_nil (σ : St) (p : List (Nat × Bool)) (n : Nat) (es : List (List AV)) : fillS σ p n es [] = some es := rfl
theorem fillS_cons (σ : St) (p : List (Nat × Bool)) (n : Nat) (es : List (List AV)) (i : Nat) (x : A) (ps : List (Nat × A)) : fillS σ p n es ((i, x) :: ps) = fsK σ p n es i ps (av σ p x) := by
  simp only [fillS]; cases av σ p x <;> rfl
theorem ev_call (Φ : Nat → Option Ctr) (f : Nat) (xs : List A) (d : Nat) (p : List (Nat × Bool)) (σ : St) : evOp Φ (.call f xs) d p σ = clO σ.m (Φ f) (avs σ p xs) := by
  simp only [evOp]; cases avs σ p xs <;> rfl
theorem call_pure (m : Nat → Option Blk) (fn : List AV → List AV → Option (Prop × AV × List AV)) (vs : List AV) : callR m (some ⟨false, fn⟩) vs = clP (vs.all AV.clean1) (fn [] vs) := by
  simp only [callR]; cases vs.all AV.clean1 <;> cases fn [] vs <;> rfl
theorem call_state (m : Nat → Option Blk) (fn : List AV → List AV → Option (Prop × AV × List AV)) (r : Nat) (vs : List AV) : callR m (some ⟨true, fn⟩) (.ptr r 0 :: vs) = clS r fn vs (m r) (vs.all AV.clean1) := by
  simp only [callR]; cases m r with
  | none => cases vs.all AV.clean1 <;> rfl
  | some b => cases b <;> cases vs.all AV.clean1 <;> rfl
theorem c0_int (k : IntKind) (n : Int) : AV.clean0 (AV.int k n) = true := rfl
theorem c1_int (k : IntKind) (n : Int) : AV.clean1 (AV.int k n) = true := rfl
theorem c2_int (k : IntKind) (n : Int) : AV.clean2 (AV.int k n) = true := rfl
theorem c0_bool (b : Bool) : AV.clean0 (AV.bool b) = true := rfl
theorem c1_bool (b : Bool) : AV.clean1 (AV.bool b) = true := rfl
theorem c2_bool (b : Bool) : AV.clean2 (AV.bool b) = true := rfl
theorem c0_str (s : List UInt8) : AV.clean0 (AV.str s) = true := rfl
theorem c1_str (s : List UInt8) : AV.clean1 (AV.str s) = true := rfl
theorem c2_str (s : List UInt8) : AV.clean2 (AV.str s) = true := rfl
theorem c0_lst (z : List AV) (es : List (List AV)) : AV.clean0 (AV.lst z es) = true := rfl
theorem c1_lst (z : List AV) (es : List (List AV)) : AV.clean1 (AV.lst z es) = true := rfl
theorem c2_lst (z : List AV) (es : List (List AV)) : AV.clean2 (AV.lst z es) = true := rfl
theorem c0_fn (f : Nat) : AV.clean0 (AV.fn f) = true := rfl
theorem c1_fn (f : Nat) : AV.clean1 (AV.fn f) = true := rfl
theorem c2_fn (f : Nat) : AV.clean2 (AV.fn f) = true := rfl
theorem c0_nil  : AV.clean0 AV.nil = true := rfl
theorem c1_nil  : AV.clean1 AV.nil = true := rfl
theorem c2_nil  : AV.clean2 AV.nil = true := rfl
theorem c1_agg (cs : List AV) : AV.clean1 (.agg cs) = cs.all AV.clean0 := rfl
theorem c2_agg (cs : List AV) : AV.clean2 (.agg cs) = cs.all AV.clean0 := rfl
theorem c2_tup (vs : List AV) : AV.clean2 (.tup vs) = vs.all AV.clean1 := rfl
theorem evC_skip (Φ : Nat → Option Ctr) (I : Nat → LI)  (σ : St) (K : Exit → St → Prop) : evC Φ I .skip σ K = K .normal σ := rfl
theorem evC_region (Φ : Nat → Option Ctr) (I : Nat → LI) (ops : List RO) (σ : St) (K : Exit → St → Prop) : evC Φ I (.region ops false) σ K = evOps Φ ops σ (kEnd ops K) := rfl
theorem evC_seq (Φ : Nat → Option Ctr) (I : Nat → LI) (a b : RC) (σ : St) (K : Exit → St → Prop) : evC Φ I (.seq a b) σ K = evC Φ I a σ (kSeq (evC Φ I b) K) := rfl
theorem evC_cond (Φ : Nat → Option Ctr) (I : Nat → LI) (c : A) (t e : RC) (σ : St) (K : Exit → St → Prop) : evC Φ I (.cond c t e) σ K = condK (evC Φ I t σ K) (evC Φ I e σ K) (ar σ c) := by
  simp only [evC]; cases ar σ c <;> rfl
theorem evC_block (Φ : Nat → Option Ctr) (I : Nat → LI) (id : Nat) (b : RC) (σ : St) (K : Exit → St → Prop) : evC Φ I (.block id b) σ K = evC Φ I b σ (kBlk id K) := rfl
theorem evC_loop (Φ : Nat → Option Ctr) (I : Nat → LI) (n : Nat) (b : RC) (σ : St) (K : Exit → St → Prop) : evC Φ I (.loop n b) σ K = (∃ i0, ((I n).S i0).ge σ ∧ (I n).R i0 i0 ∧ ∀ i, (I n).R i0 i → evC Φ I b ((I n).S i).st (kLoop (I n) i0 i K)) := rfl
theorem evC_exit (Φ : Nat → Option Ctr) (I : Nat → LI) (id : Nat) (σ : St) (K : Exit → St → Prop) : evC Φ I (.exit id) σ K = K (.exit id) σ := rfl
theorem evC_ret (Φ : Nat → Option Ctr) (I : Nat → LI)  (σ : St) (K : Exit → St → Prop) : evC Φ I .ret σ K = K .ret σ := rfl
theorem kEnd_at (ops : List RO) (K : Exit → St → Prop) (s : Nat → AV) (m : Nat → Option Blk) : kEnd ops K ⟨s, m⟩ = kEndB K s m (hasG ops) := by
  simp only [kEnd, endR]; cases hasG ops <;> rfl
theorem hasG_nil : hasG [] = false := rfl
theorem hasG_no (d : Option Nat) (op : IOp) (af : List Nat) (l : List RO) : hasG (⟨d, op, none, af⟩ :: l) = hasG l := rfl
theorem hasG_yes (d : Option Nat) (op : IOp) (g : Nat × Bool) (af : List Nat) (l : List RO) : hasG (⟨d, op, some g, af⟩ :: l) = true := rfl
theorem kSeq_n (E : St → (Exit → St → Prop) → Prop) (K : Exit → St → Prop) (σ : St) : kSeq E K .normal σ = E σ K := rfl
theorem kSeq_e (E : St → (Exit → St → Prop) → Prop) (K : Exit → St → Prop) (i : Nat) (σ : St) : kSeq E K (.exit i) σ = K (.exit i) σ := rfl
theorem kSeq_r (E : St → (Exit → St → Prop) → Prop) (K : Exit → St → Prop) (σ : St) : kSeq E K .ret σ = K .ret σ := rfl
theorem kBlk_n (id : Nat) (K : Exit → St → Prop) (σ : St) : kBlk id K .normal σ = K .normal σ := rfl
theorem kBlk_r (id : Nat) (K : Exit → St → Prop) (σ : St) : kBlk id K .ret σ = K .ret σ := rfl
theorem kBlk_e (id i : Nat) (K : Exit → St → Prop) (σ : St) : kBlk id K (.exit i) σ = kBlkB K i σ (i == id) := by
  simp only [kBlk]; cases (i == id) <;> rfl
theorem kLoop_n (L : LI) (i0 i : L.ι) (K : Exit → St → Prop) (σ : St) : kLoop L i0 i K .normal σ = (∃ j, (L.S j).ge σ ∧ L.R i0 j ∧ L.μ j < L.μ i) := rfl
theorem kLoop_e (L : LI) (i0 i : L.ι) (K : Exit → St → Prop) (x : Nat) (σ : St) : kLoop L i0 i K (.exit x) σ = K (.exit x) σ := rfl
theorem kLoop_r (L : LI) (i0 i : L.ι) (K : Exit → St → Prop) (σ : St) : kLoop L i0 i K .ret σ = K .ret σ := rfl
theorem kRet_r (rv : List RV) (r : AV) (st : Bool) (cs : List AV) (σ : St) : kRet rv r st cs .ret σ = retOK rv r st cs σ := rfl
theorem kRet_n (rv : List RV) (r : AV) (st : Bool) (cs : List AV) (σ : St) : kRet rv r st cs .normal σ = retOK rv r st cs σ := rfl
theorem retOK_f (rv : List RV) (r : AV) (cs : List AV) (σ : St) : retOK rv r false cs σ = (rtO r (retL σ rv) ∧ True) := by
  simp only [retOK]; cases retL σ rv <;> rfl
theorem retOK_t (rv : List RV) (r : AV) (cs : List AV) (σ : St) : retOK rv r true cs σ = (rtO r (retL σ rv) ∧ rtM cs (σ.m 0)) := by
  simp only [retOK]; cases retL σ rv <;> cases σ.m 0 with
  | none => rfl
  | some b => cases b <;> rfl
theorem retL_nil (σ : St) : retL σ [] = some [] := rfl
theorem retL_cons (σ : St) (r : RV) (rs : List RV) : retL σ (r :: rs) = consO (retV σ r) (retL σ rs) := by
  simp only [retL]; cases retV σ r <;> cases retL σ rs <;> rfl
theorem retV_t (s : Nat → AV) (m : Nat → Option Blk) (n : Nat) : retV ⟨s, m⟩ (.t n) = some (s n) := rfl
theorem retV_c (s : Nat → AV) (m : Nat → Option Blk) (p n : Nat) (ag : Bool) : retV ⟨s, m⟩ (.c p n ag) = rvP m n ag (s p) := by
  simp only [retV]; cases s p <;> rfl
theorem initM_f (cs : List AV) : initM false cs = fun _ => none := rfl
theorem initM_t (cs : List AV) : initM true cs = updM (fun _ => none) 0 (some (.cells cs)) := rfl
theorem initS_at (xs : List AV) (k : Nat) : initS xs k = xs.getD k .junk := rfl
theorem lookL_nil (k : Nat) : lookL [] k = .junk := rfl
theorem lookL_cons (d : Nat) (v : AV) (l : List (Nat × AV)) (k : Nat) : lookL ((d, v) :: l) k = if k = d then v else lookL l k := rfl
theorem lookM_nil (k : Nat) : lookM [] k = none := rfl
theorem lookM_cons (d : Nat) (v : Blk) (l : List (Nat × Blk)) (k : Nat) : lookM ((d, v) :: l) k = if k = d then some v else lookM l k := rfl
theorem SL_st (l : List (Nat × AV)) (b : List (Nat × Blk)) : SL.st ⟨l, b⟩ = ⟨lookL l, lookM b⟩ := rfl
theorem SL_ge (l : List (Nat × AV)) (b : List (Nat × Blk)) (s : Nat → AV) (m : Nat → Option Blk) : SL.ge ⟨l, b⟩ ⟨s, m⟩ = (leL s l ∧ leM m b) := rfl
theorem leL_nil (s : Nat → AV) : leL s [] = True := rfl
theorem leL_cons (s : Nat → AV) (d : Nat) (v : AV) (l : List (Nat × AV)) : leL s ((d, v) :: l) = (leA (s d) v ∧ leL s l) := rfl
theorem leM_nil (m : Nat → Option Blk) : leM m [] = True := rfl
theorem leM_cons (m : Nat → Option Blk) (r : Nat) (b : Blk) (l : List (Nat × Blk)) : leM m ((r, b) :: l) = (m r = some b ∧ leM m l) := rfl


/-! ### Regions whose order is drawn -/
theorem evC_draw (Φ : Nat → Option Ctr) (I : Nat → LI) (ops : List RO) (σ : St) (K : Exit → St → Prop) : evC Φ I (.region ops true) σ K = evD Φ ops 0 [] (preK ops σ) (kEnd ops K) := rfl
/-- The head of a drawn region. -/
def evDk (Φ : Nat → Option Ctr) (o : RO) (rest : List RO) (n : Nat) (D : List (Nat × Option Nat × Res)) (σ : St) (K : St → Prop) : Option Res → Prop
  | none => False
  | some r => newOK o.dst r ∧ askL r.pre (pairD D o.after o.dst r (evD Φ rest (n + 1) ((n, o.dst, r) :: D) (σ.put o.dst r) K))
theorem evD_nil (Φ : Nat → Option Ctr) (n : Nat) (D : List (Nat × Option Nat × Res)) (σ : St) (K : St → Prop) : evD Φ [] n D σ K = knowD D (K σ) := rfl
theorem evD_cons (Φ : Nat → Option Ctr) (o : RO) (rest : List RO) (n : Nat) (D : List (Nat × Option Nat × Res)) (σ : St) (K : St → Prop) : evD Φ (o :: rest) n D σ K = evDk Φ o rest n D σ K (evG Φ o σ) := by
  simp only [evD, evDk]; cases evG Φ o σ <;> rfl
theorem evDk_some (Φ : Nat → Option Ctr) (d : Option Nat) (op : IOp) (g : Option (Nat × Bool)) (af : List Nat) (rest : List RO) (n : Nat) (D : List (Nat × Option Nat × Res)) (σ : St) (K : St → Prop) (pre post : List Prop) (v : AV) (us : List (Nat × Blk)) (nw : Option Blk) (t : List Nat) :
    evDk Φ ⟨d, op, g, af⟩ rest n D σ K (some ⟨pre, post, v, us, nw, t⟩) = (newOK d ⟨pre, post, v, us, nw, t⟩ ∧ askL pre (pairD D af d ⟨pre, post, v, us, nw, t⟩ (evD Φ rest (n + 1) ((n, d, ⟨pre, post, v, us, nw, t⟩) :: D) (σ.put d ⟨pre, post, v, us, nw, t⟩) K))) := rfl
theorem newOK_none (d : Option Nat) (pre post : List Prop) (v : AV) (us : List (Nat × Blk)) (t : List Nat) : newOK d ⟨pre, post, v, us, none, t⟩ = True := by cases d <;> rfl
theorem newOK_some (d : Nat) (pre post : List Prop) (v : AV) (us : List (Nat × Blk)) (b : Blk) (t : List Nat) : newOK (some d) ⟨pre, post, v, us, some b, t⟩ = (us = [] ∧ killB (64 * d) b = b) := rfl
theorem pairD_nil (af : List Nat) (d : Option Nat) (r : Res) (K : Prop) : pairD [] af d r K = K := rfl
theorem pairD_cons (m : Nat) (d1 : Option Nat) (r1 : Res) (D : List (Nat × Option Nat × Res)) (af : List Nat) (d : Option Nat) (r : Res) (K : Prop) : pairD ((m, d1, r1) :: D) af d r K = (pairOK m d1 r1 af d r ∧ pairD D af d r K) := rfl
def pairB (d1 : Option Nat) (r1 : Res) (d : Option Nat) (r : Res) : Bool → Prop
  | true => True
  | false => chkR d1 r1 d r = true ∧ newMen d1 r1 r
theorem pairOK_eq (m : Nat) (d1 : Option Nat) (r1 : Res) (af : List Nat) (d : Option Nat) (r : Res) : pairOK m d1 r1 af d r = (newMen d r r1 ∧ pairB d1 r1 d r (af.contains m)) := by
  simp only [pairOK, pairB]; cases af.contains m <;> rfl
theorem pairB_t (d1 : Option Nat) (r1 : Res) (d : Option Nat) (r : Res) : pairB d1 r1 d r true = True := rfl
theorem pairB_f (d1 : Option Nat) (r1 : Res) (d : Option Nat) (r : Res) : pairB d1 r1 d r false = (chkR d1 r1 d r = true ∧ newMen d1 r1 r) := rfl
theorem newMen_none (d : Option Nat) (pre post : List Prop) (v : AV) (us : List (Nat × Blk)) (t : List Nat) (r1 : Res) : newMen d ⟨pre, post, v, us, none, t⟩ r1 = True := by cases d <;> rfl
theorem newMen_some (d : Nat) (pre post : List Prop) (v : AV) (us : List (Nat × Blk)) (b : Blk) (t : List Nat) (r1 : Res) : newMen (some d) ⟨pre, post, v, us, some b, t⟩ r1 = noMen (64 * d) r1 := rfl
def noB (b : Nat) : Option Blk → Prop
  | some k => killB b k = k
  | none => True
theorem noMen_eq (b : Nat) (pre post : List Prop) (v : AV) (us : List (Nat × Blk)) (nw : Option Blk) (t : List Nat) : noMen b ⟨pre, post, v, us, nw, t⟩ = (kill3 b v = v ∧ (us.map fun u => (u.1, killB b u.2)) = us ∧ ((us.map (·.1)).contains b) = false ∧ noB b nw) := by cases nw <;> rfl
theorem noB_none (b : Nat) : noB b none = True := rfl
theorem noB_some (b : Nat) (k : Blk) : noB b (some k) = (killB b k = k) := rfl
def newI : Option Blk → Option Nat → List Nat
  | some _, some d => [64 * d]
  | _, _ => []
theorem chkR_eq (d1 : Option Nat) (pre post : List Prop) (v : AV) (us : List (Nat × Blk)) (nw : Option Blk) (t : List Nat) (d : Option Nat) (pre' post' : List Prop) (v' : AV) (us' : List (Nat × Blk)) (nw' : Option Blk) (t' : List Nat) :
    chkR d1 ⟨pre, post, v, us, nw, t⟩ d ⟨pre', post', v', us', nw', t'⟩ = (disjN (pslots v') (optN d1) && disjN (pslots v) (optN d) && disjN (us.map (·.1) ++ newI nw d1) (t' ++ (us'.map (·.1) ++ newI nw' d)) && disjN (us'.map (·.1) ++ newI nw' d) t) := by
  cases nw <;> cases nw' <;> cases d <;> cases d1 <;> rfl
theorem newI_none (d : Option Nat) : newI none d = [] := by cases d <;> rfl
theorem newI_some (b : Blk) (d : Nat) : newI (some b) (some d) = [64 * d] := rfl
theorem optN_none : optN none = [] := rfl
theorem optN_some (d : Nat) : optN (some d) = [d] := rfl
theorem disjN_nil (l : List Nat) : disjN [] l = true := rfl
theorem disjN_cons (x : Nat) (xs l : List Nat) : disjN (x :: xs) l = (!l.contains x && disjN xs l) := rfl
theorem pslots_gd (p : List (Nat × Bool)) (v : AV) : pslots (.gd p v) = p.map (·.1) := rfl
theorem pslots_int (k : IntKind) (n : Int) : pslots (.int k n) = [] := rfl
theorem pslots_bool (b : Bool) : pslots (.bool b) = [] := rfl
theorem pslots_str (s : List UInt8) : pslots (.str s) = [] := rfl
theorem pslots_agg (cs : List AV) : pslots (.agg cs) = [] := rfl
theorem pslots_tup (cs : List AV) : pslots (.tup cs) = [] := rfl
theorem pslots_lst (z : List AV) (es : List (List AV)) : pslots (.lst z es) = [] := rfl
theorem pslots_ep (z : List AV) (es : List (List AV)) (i o : Nat) : pslots (.ep z es i o) = [] := rfl
theorem pslots_ptr (r o : Nat) : pslots (.ptr r o) = [] := rfl
theorem pslots_fn (f : Nat) : pslots (.fn f) = [] := rfl
theorem pslots_nil : pslots .nil = [] := rfl
theorem pslots_junk : pslots .junk = [] := rfl
theorem knowD_nil (K : Prop) : knowD [] K = K := rfl
theorem knowD_cons (n : Nat) (d : Option Nat) (pre post : List Prop) (v : AV) (us : List (Nat × Blk)) (nw : Option Blk) (t : List Nat) (D : List (Nat × Option Nat × Res)) (K : Prop) : knowD ((n, d, ⟨pre, post, v, us, nw, t⟩) :: D) K = knowL post (knowD D K) := rfl
theorem preK_nil (σ : St) : preK [] σ = σ := rfl
theorem preK_none (op : IOp) (g : Option (Nat × Bool)) (af : List Nat) (l : List RO) (σ : St) : preK (⟨none, op, g, af⟩ :: l) σ = preK l σ := rfl
def preB (d : Nat) (l : List RO) (σ : St) : Bool → St
  | true => preK l ⟨killS (64 * d) σ.s, updM (killM (64 * d) σ.m) (64 * d) none⟩
  | false => preK l σ
theorem preK_some (d : Nat) (op : IOp) (g : Option (Nat × Bool)) (af : List Nat) (l : List RO) (σ : St) : preK (⟨some d, op, g, af⟩ :: l) σ = preB d l σ (needD op) := by
  simp only [preK, preB]; cases needD op <;> rfl
theorem preB_t (d : Nat) (l : List RO) (s : Nat → AV) (m : Nat → Option Blk) : preB d l ⟨s, m⟩ true = preK l ⟨killS (64 * d) s, updM (killM (64 * d) m) (64 * d) none⟩ := rfl
theorem preB_f (d : Nat) (l : List RO) (σ : St) : preB d l σ false = preK l σ := rfl
theorem needD_alloc (z : List AV) : needD (.alloc z) = true := rfl
theorem needD_box (n : Nat) (x : A) : needD (.box n x) = true := rfl
theorem killB_cs (r : Nat) (cs : List AV) : killB r (.cells cs) = .cells (cs.map (kill0 r)) := rfl
theorem needD_mov (x : A) : needD (.mov x) = false := rfl
theorem needD_pick (c a b : A) : needD (.pick c a b) = false := rfl
theorem needD_arith (op : BinOp) (x y : A) : needD (.arith op x y) = false := rfl
theorem needD_cmp (op : BinOp) (ty : Nat) (x y : A) : needD (.cmp op ty x y) = false := rfl
theorem needD_eqa (neg : Bool) (sh : List Nat) (x y : A) : needD (.eqa neg sh x y) = false := rfl
theorem needD_not (x : A) : needD (.not x) = false := rfl
theorem needD_neg (x : A) : needD (.neg x) = false := rfl
theorem needD_conv (k : IntKind) (x : A) : needD (.conv k x) = false := rfl
theorem needD_b2s (x : A) : needD (.b2s x) = false := rfl
theorem needD_len (ty : Nat) (x : A) : needD (.len ty x) = false := rfl
theorem needD_minmax (mx : Bool) (xs : List A) : needD (.minmax mx xs) = false := rfl
theorem needD_faddr (off : Nat) (x : A) : needD (.faddr off x) = false := rfl
theorem needD_fld (off n : Nat) (ag : Bool) (x : A) : needD (.fld off n ag x) = false := rfl
theorem needD_iaddrS (zero : List AV) (x i : A) : needD (.iaddrS zero x i) = false := rfl
theorem needD_iaddrA (n sz : Nat) (x i : A) : needD (.iaddrA n sz x i) = false := rfl
theorem needD_load (n : Nat) (ag : Bool) (x : A) : needD (.load n ag x) = false := rfl
theorem needD_store (n : Nat) (x v : A) : needD (.store n x v) = false := rfl
theorem needD_build (zero : List AV) (ps : List (Nat × Nat × A)) : needD (.build zero ps) = false := rfl
theorem needD_bslice (len : Nat) (zero : List AV) (ps : List (Nat × A)) : needD (.bslice len zero ps) = false := rfl
theorem needD_extract (i : Nat) (x : A) : needD (.extract i x) = false := rfl
theorem needD_nilchk (x : A) : needD (.nilchk x) = false := rfl
theorem needD_call (f : Nat) (xs : List A) : needD (.call f xs) = false := rfl
theorem needD_append (bytes : Nat) (z : List AV) (x y : A) : needD (.append bytes z x y) = false := rfl
theorem needD_slice (sz : Nat) (x : A) (lo hi : Option A) : needD (.slice sz x lo hi) = false := rfl
theorem needD_mkslice (bytes : Nat) (zero : List AV) (l c : A) : needD (.mkslice bytes zero l c) = false := rfl
theorem needD_copy (sz : Nat) (x y : A) : needD (.copy sz x y) = false := rfl
end Go.Ev
