/- A part of the proof: symbolic evaluation of the program's functions, proved sound against the model; no condition. -/
/-
  The framework 'Ev', part S: the evaluator, step by step: one equation for each shape.
  Conditions: none; a text of lemmas.
-/
import Derived.Test.YteakklbbdfgbdaaEvV
namespace Go.Ev
open Go Go.RowKit
set_option linter.unusedVariables false

def gvB (b : Bool) (v : AV) : Option AV := match b with
  | true => some v
  | false => none
theorem gvB_true (v : AV) : gvB true v = some v := by rfl
def goOp (Φ : Nat → Option Ctr) (rest : List RO) (K : St → Prop) (σ : St) (dst : Option Nat) : Option Res → Prop
  | none => False
  | some r => askL r.pre (knowL r.post (evOps Φ rest (σ.put dst r) K))
def gG (Φ : Nat → Option Ctr) (op : IOp) (d : Nat) (σ : St) : Option (List (Nat × Bool)) → Option Res
  | none => none
  | some p => guardR σ p (evOp Φ op d p σ)
def guardU (σ : St) (e : Nat × Bool) (pre : List Prop) (v : AV) (t : List Nat) : Option (List (Nat × Blk)) → Option Res
  | none => none
  | some us => some ⟨guardL σ.s [e] pre, [], .gd [e] v, us, none, t⟩
def beqO (b : Bool) : Option Bool → Bool
  | some c => c == b
  | none => false
theorem beqO_some (b c : Bool) : beqO b (some c) = (c == b) := by rfl
def killO (r : Nat) : Option Blk → Option Blk
  | none => none
  | some b => some (killB r b)
theorem killO_none (r : Nat) : killO r none = none := by rfl
theorem killO_some (r : Nat) (b : Blk) : killO r (some b) = some (killB r b) := by rfl
def consO : Option AV → Option (List AV) → Option (List AV)
  | some v, some vs => some (v :: vs)
  | _, _ => none
theorem consO_some (v : AV) (vs : List AV) : consO (some v) (some vs) = some (v :: vs) := by rfl
def evPick (σ : St) (p : List (Nat × Bool)) (c a b : A) : Option Nat → Option Res
  | some k => bind1 (av σ p c) fun vc => bind2 (av σ (p ++ [(k, true)]) a) (av σ (p ++ [(k, false)]) b) (pickV vc)
  | none => none
def pick3 : Option AV → Option AV → Option AV → Option Res
  | some c, some a, some b => pickV c a b
  | _, _, _ => none
def cmp2 (op : BinOp) (ty : Nat) : Option AV → Option AV → Option Res
  | some v, some w => toR (cmpR op ty v w)
  | _, _ => none
def eqa2 (neg : Bool) (sh : List Nat) : Option AV → Option AV → Option Res
  | some v, some w => toR (eqaR neg sh v w)
  | _, _ => none
def eqaB (neg : Bool) : Option Bool → Option AV
  | some b => some (.bool (match neg with | true => !b | false => b))
  | none => none
theorem eqaB_t (b : Bool) : eqaB true (some b) = some (.bool (!b)) := by rfl
theorem eqaB_f (b : Bool) : eqaB false (some b) = some (.bool b) := by rfl
def andO (b : Bool) : Option Bool → Option Bool
  | some c => some (b && c)
  | none => none
theorem andO_some (b c : Bool) : andO b (some c) = some (b && c) := by rfl
def mmO (mx : Bool) : Option (List AV) → Option Res
  | some (.int k n :: vs) => toR (minmaxL mx (.int k n) vs)
  | _ => none
theorem mmO_some (mx : Bool) (k : IntKind) (n : Int) (vs : List AV) : mmO mx (some (.int k n :: vs)) = toR (minmaxL mx (.int k n) vs) := by rfl
def iasB (z : List AV) (es : List (List AV)) (n : Int) : Bool → Option Res
  | true => some ⟨[0 ≤ n ∧ n < es.length], [es.length ≤ 9223372036854775807], .ep z es n.toNat 0, [], none, []⟩
  | false => none
theorem iasB_true (z : List AV) (es : List (List AV)) (n : Int) : iasB z es n true = some ⟨[0 ≤ n ∧ n < es.length], [es.length ≤ 9223372036854775807], .ep z es n.toNat 0, [], none, []⟩ := by rfl
def iaA (n sz : Nat) (i : A) : Option AV → Option AV → Option Res
  | some v, some u => iaddrAR n sz v i u
  | _, _ => none
theorem iaA_some (n sz : Nat) (i : A) (v u : AV) : iaA n sz i (some v) (some u) = iaddrAR n sz v i u := by rfl
def ldB (n : Nat) (ag : Bool) (o r : Nat) : Option Blk → Option Res
  | some (.cells cs) => (match valOf ag n cs o with
    | some v => some ⟨[], [], v, [], none, [r]⟩
    | none => none)
  | _ => none
def ldV (t : List Nat) : Option AV → Option Res
  | some v => some ⟨[], [], v, [], none, t⟩
  | none => none
theorem ldV_some (t : List Nat) (v : AV) : ldV t (some v) = some ⟨[], [], v, [], none, t⟩ := by rfl
theorem ldB_cells (n : Nat) (ag : Bool) (o r : Nat) (cs : List AV) : ldB n ag o r (some (.cells cs)) = ldV [r] (valOf ag n cs o) := by
  simp only [ldB]; cases valOf ag n cs o <;> rfl
def valB (n : Nat) (cs : List AV) (off : Nat) : Bool → Option AV
  | true => some (.agg ((cs.drop off).take n))
  | false => none
theorem valB_true (n : Nat) (cs : List AV) (off : Nat) : valB n cs off true = some (.agg ((cs.drop off).take n)) := by rfl
def stB (n o r : Nat) : Option (List AV) → Option Blk → Option Res
  | some vs, some (.cells cs) => (match decide (o + n ≤ cs.length) with
    | true => some ⟨[], [], .junk, [(r, .cells (setCells cs o vs))], none, [r]⟩
    | false => none)
  | _, _ => none
def stC (o r : Nat) (vs cs : List AV) : Bool → Option Res
  | true => some ⟨[], [], .junk, [(r, .cells (setCells cs o vs))], none, [r]⟩
  | false => none
theorem stC_true (o r : Nat) (vs cs : List AV) : stC o r vs cs true = some ⟨[], [], .junk, [(r, .cells (setCells cs o vs))], none, [r]⟩ := by rfl
theorem stB_cells (n o r : Nat) (vs cs : List AV) : stB n o r (some vs) (some (.cells cs)) = stC o r vs cs (decide (o + n ≤ cs.length)) := by
  simp only [stB]; cases decide (o + n ≤ cs.length) <;> rfl
def bxO (d : Nat) : Option (List AV) → Option Res
  | some cs => some ⟨[], [], .ptr ((64 * d + 64)) 0, [], some ((64 * d + 64), .cells cs), []⟩
  | none => none
theorem bxO_some (d : Nat) (cs : List AV) : bxO d (some cs) = some ⟨[], [], .ptr ((64 * d + 64)) 0, [], some ((64 * d + 64), .cells cs), []⟩ := by rfl
def blO : Option (List AV) → Option Res
  | some cs => some ⟨[], [], .agg cs, [], none, []⟩
  | none => none
theorem blO_some (cs : List AV) : blO (some cs) = some ⟨[], [], .agg cs, [], none, []⟩ := by rfl
def blS (z : List AV) : Option (List (List AV)) → Option Res
  | some es => some ⟨[], [], .lst z es, [], none, []⟩
  | none => none
theorem blS_some (z : List AV) (es : List (List AV)) : blS z (some es) = some ⟨[], [], .lst z es, [], none, []⟩ := by rfl
def faK (σ : St) (p : List (Nat × Bool)) (cs : List AV) (off n : Nat) (ps : List (Nat × Nat × A)) : Option AV → Option (List AV)
  | some v => (match cellsOfAV n v with
    | some vs => if off + n ≤ cs.length then fillA σ p (setCells cs off vs) ps else none
    | none => none)
  | none => none
def faC (σ : St) (p : List (Nat × Bool)) (cs : List AV) (off n : Nat) (ps : List (Nat × Nat × A)) : Option (List AV) → Option (List AV)
  | some vs => if off + n ≤ cs.length then fillA σ p (setCells cs off vs) ps else none
  | none => none
theorem faK_some (σ : St) (p : List (Nat × Bool)) (cs : List AV) (off n : Nat) (ps : List (Nat × Nat × A)) (v : AV) : faK σ p cs off n ps (some v) = faC σ p cs off n ps (cellsOfAV n v) := by
  simp only [faK]; cases cellsOfAV n v <;> rfl
theorem faC_some (σ : St) (p : List (Nat × Bool)) (cs : List AV) (off n : Nat) (ps : List (Nat × Nat × A)) (vs : List AV) : faC σ p cs off n ps (some vs) = if off + n ≤ cs.length then fillA σ p (setCells cs off vs) ps else none := by rfl
def fsK (σ : St) (p : List (Nat × Bool)) (n : Nat) (es : List (List AV)) (i : Nat) (ps : List (Nat × A)) : Option AV → Option (List (List AV))
  | some v => (match cellsOfAV n v with
    | some vs => if i < es.length ∧ vs.all AV.clean0 = true then fillS σ p n (es.set i vs) ps else none
    | none => none)
  | none => none
def fsC (σ : St) (p : List (Nat × Bool)) (n : Nat) (es : List (List AV)) (i : Nat) (ps : List (Nat × A)) : Option (List AV) → Option (List (List AV))
  | some vs => if i < es.length ∧ vs.all AV.clean0 = true then fillS σ p n (es.set i vs) ps else none
  | none => none
theorem fsK_some (σ : St) (p : List (Nat × Bool)) (n : Nat) (es : List (List AV)) (i : Nat) (ps : List (Nat × A)) (v : AV) : fsK σ p n es i ps (some v) = fsC σ p n es i ps (cellsOfAV n v) := by
  simp only [fsK]; cases cellsOfAV n v <;> rfl
theorem fsC_some (σ : St) (p : List (Nat × Bool)) (n : Nat) (es : List (List AV)) (i : Nat) (ps : List (Nat × A)) (vs : List AV) : fsC σ p n es i ps (some vs) = if i < es.length ∧ vs.all AV.clean0 = true then fillS σ p n (es.set i vs) ps else none := by rfl
def clO (m : Nat → Option Blk) (C : Option Ctr) : Option (List AV) → Option Res
  | some vs => callR m C vs
  | none => none
theorem clO_some (m : Nat → Option Blk) (C : Option Ctr) (vs : List AV) : clO m C (some vs) = callR m C vs := by rfl
def clE (d : Nat) (m : Nat → Option Blk) (C : Option Ctr) : Option (List AV) → Option Res
  | some vs => callE d m C vs
  | none => none
theorem clE_some (d : Nat) (m : Nat → Option Blk) (C : Option Ctr) (vs : List AV) : clE d m C (some vs) = callE d m C vs := by rfl
theorem callE_pure (d : Nat) (m : Nat → Option Blk) (fn : List AV → List AV → Option (Prop × AV × List AV)) (vs : List AV) : callE d m (some (.mk false fn)) vs = callN fn (lends m vs) := by rfl
theorem callE_state (d : Nat) (m : Nat → Option Blk) (fn : List AV → List AV → Option (Prop × AV × List AV)) (r : Nat) (vs : List AV) : callE d m (some (.mk true fn)) (.ptr r 0 :: vs) = callC m fn r vs (m r) := by rfl
theorem callE_own (d : Nat) (m : Nat → Option Blk) (T : Nat) (z : List AV) (fn : List AV → Option (Prop × List (List AV))) (vs : List AV) : callE d m (some (.own T z fn)) vs = ownW d T z fn (lends m vs) := by rfl
def ownK (d T : Nat) (z : List AV) (bs : List Nat) : Option (Prop × List (List AV)) → Option Res
  | some (q, es) => some ⟨[q, backF bs es], [], .vw (64 * d + 64) 0 0 0, [], some (64 * d + 64, .buf T z es), bs⟩
  | none => none
theorem ownW_some (d T : Nat) (z : List AV) (fn : List AV → Option (Prop × List (List AV))) (vs : List AV) (bs : List Nat) : ownW d T z fn (some (vs, bs)) = ownK d T z bs (fn vs) := by
  simp only [ownW, ownK]; cases fn vs <;> rfl
theorem ownK_some (d T : Nat) (z : List AV) (bs : List Nat) (q : Prop) (es : List (List AV)) : ownK d T z bs (some (q, es)) = some ⟨[q, backF bs es], [], .vw (64 * d + 64) 0 0 0, [], some (64 * d + 64, .buf T z es), bs⟩ := by rfl
theorem backF_nil (es : List (List AV)) : backF [] es = True := by rfl
theorem backF_cons (b : Nat) (bs : List Nat) (es : List (List AV)) : backF (b :: bs) es = FlatE es := by rfl
theorem len_sv (m : Nat → Option Blk) (r sz lo hi : Nat) : lenM m 0 (.sv r sz lo hi) = some ⟨[], [hi - lo ≤ 9223372036854775807], .int .i64 ((hi - lo : Nat) : Int), [], none, []⟩ := by rfl
theorem ev_copy (Φ : Nat → Option Ctr) (sz : Nat) (x y : A) (d : Nat) (p : List (Nat × Bool)) (σ : St) : evOp Φ (.copy sz x y) d p σ = bind2 (av σ p x) (av σ p y) (cpR σ.m sz) := by rfl
theorem cpR_vw (m : Nat → Option Blk) (sz r a b c : Nat) (y : AV) : cpR m sz (.vw r a b c) y = cpB sz r (m r) (ysOf m 1 y) := by rfl
def cpK (r t : Nat) (z : List AV) (es ys : List (List AV)) (t' : List Nat) : Bool → Option Res
  | true => some ⟨[], [], .int .i64 ((min ys.length es.length : Nat) : Int), [(r, .buf t z (ys.take es.length ++ es.drop ys.length))], none, r :: t'⟩
  | false => none
theorem cpB_buf (sz r t : Nat) (z : List AV) (es ys : List (List AV)) (t' : List Nat) : cpB sz r (some (.buf t z es)) (some (ys, t')) = cpK r t z es ys t' (decide (sz = 1 ∧ z.length = 1)) := by
  simp only [cpB, cpK]; cases decide (sz = 1 ∧ z.length = 1) <;> rfl
theorem cpK_t (r t : Nat) (z : List AV) (es ys : List (List AV)) (t' : List Nat) : cpK r t z es ys t' true = some ⟨[], [], .int .i64 ((min ys.length es.length : Nat) : Int), [(r, .buf t z (ys.take es.length ++ es.drop ys.length))], none, r :: t'⟩ := by rfl
def condK (t e : Prop) : AV → Prop
  | .bool b => (b = true → t) ∧ (b = false → e)
  | .nb b => (b = true → t) ∧ e
  | _ => False
theorem condK_bool (t e : Prop) (b : Bool) : condK t e (.bool b) = ((b = true → t) ∧ (b = false → e)) := by rfl
def kEndB (K : Exit → St → Prop) (s : Nat → AV) (m : Nat → Option Blk) : Bool → Prop
  | true => K .normal ⟨ungdS s, m⟩
  | false => K .normal ⟨s, m⟩
theorem kEndB_t (K : Exit → St → Prop) (s : Nat → AV) (m : Nat → Option Blk) : kEndB K s m true = K .normal ⟨ungdS s, m⟩ := by rfl
theorem kEndB_f (K : Exit → St → Prop) (s : Nat → AV) (m : Nat → Option Blk) : kEndB K s m false = K .normal ⟨s, m⟩ := by rfl
def kBlkB (K : Exit → St → Prop) (i : Nat) (σ : St) : Bool → Prop
  | true => K .normal σ
  | false => K (.exit i) σ
theorem kBlkB_t (K : Exit → St → Prop) (i : Nat) (σ : St) : kBlkB K i σ true = K .normal σ := by rfl
theorem kBlkB_f (K : Exit → St → Prop) (i : Nat) (σ : St) : kBlkB K i σ false = K (.exit i) σ := by rfl
def rtO (r : AV) : Option (List AV) → Prop
  | some vs => resV vs r
  | none => False
theorem rtO_some (r : AV) (vs : List AV) : rtO r (some vs) = resV vs r := by rfl
def rtM (cs : List AV) : Option Blk → Prop
  | some (.cells ds) => leAs ds cs
  | _ => False
theorem rtM_cells (cs ds : List AV) : rtM cs (some (.cells ds)) = leAs ds cs := by rfl
def rvP (m : Nat → Option Blk) (n : Nat) (ag : Bool) : AV → Option AV
  | .ptr r o => (match m r with
    | some (.cells cs) => valOf ag n cs o
    | _ => none)
  | _ => none
def rvB (n : Nat) (ag : Bool) (o : Nat) : Option Blk → Option AV
  | some (.cells cs) => valOf ag n cs o
  | _ => none
theorem rvP_ptr (m : Nat → Option Blk) (n : Nat) (ag : Bool) (r o : Nat) : rvP m n ag (.ptr r o) = rvB n ag o (m r) := by
  simp only [rvP]; cases m r with
  | none => rfl
  | some b => cases b <;> rfl
theorem rvB_cells (n : Nat) (ag : Bool) (o : Nat) (cs : List AV) : rvB n ag o (some (.cells cs)) = valOf ag n cs o := by rfl

theorem leA_nil (z : List AV) (es : List (List AV)) : leA .nil (.lst z es) = (es = []) := by rfl
theorem leA_nilnil : leA .nil .nil = True := propext (iff_true_intro rfl)
theorem leV1_agg (xs ys : List AV) : leV1 (.agg xs) (.agg ys) = leAs xs ys := by rfl
theorem leV1_nil (y : AV) : leV1 .nil y = leA .nil y := by rfl
theorem leAs_nil : leAs [] [] = True := by rfl
theorem leAs_cons (x y : AV) (xs ys : List AV) : leAs (x :: xs) (y :: ys) = (leA x y ∧ leAs xs ys) := by rfl
theorem leVs_nil : leVs [] [] = True := by rfl
theorem leVs_cons (x y : AV) (xs ys : List AV) : leVs (x :: xs) (y :: ys) = (leV1 x y ∧ leVs xs ys) := by rfl
theorem resV_one (v r : AV) : resV [v] r = leV1 v r := by rfl
theorem resV_two (x y : AV) (zs ys : List AV) : resV (x :: y :: zs) (.tup ys) = leVs (x :: y :: zs) ys := by rfl
theorem evOps_nil (Φ : Nat → Option Ctr) (σ : St) (K : St → Prop) : evOps Φ [] σ K = K σ := by rfl
theorem goOp_some (Φ : Nat → Option Ctr) (rest : List RO) (K : St → Prop) (σ : St) (dst : Option Nat) (p q : List Prop) (v : AV) (us : List (Nat × Blk)) (nw : Option (Nat × Blk)) (t : List Nat) : goOp Φ rest K σ dst (some ⟨p, q, v, us, nw, t⟩) = askL p (knowL q (evOps Φ rest (σ.put dst ⟨p, q, v, us, nw, t⟩) K)) := by rfl
theorem evG_no (Φ : Nat → Option Ctr) (dst : Option Nat) (op : IOp) (af : List Nat) (σ : St) : evG Φ ⟨dst, op, none, af⟩ σ = evOp Φ op (dst.getD 0) [] σ := by rfl
theorem evG_yes (Φ : Nat → Option Ctr) (dst : Option Nat) (op : IOp) (g : Nat) (b : Bool) (af : List Nat) (σ : St) : evG Φ ⟨dst, op, some (g, b), af⟩ σ = gG Φ op (dst.getD 0) σ (pathG g b (σ.s g)) := by
  simp only [evG]; cases pathG g b (σ.s g) <;> rfl
theorem gG_some (Φ : Nat → Option Ctr) (op : IOp) (d : Nat) (σ : St) (p : List (Nat × Bool)) : gG Φ op d σ (some p) = guardR σ p (evOp Φ op d p σ) := by rfl
theorem pathG_bool (g : Nat) (b c : Bool) : pathG g b (.bool c) = some [(g, b)] := by rfl
theorem pathG_gd (g : Nat) (b c : Bool) (q : List (Nat × Bool)) : pathG g b (.gd q (.bool c)) = some (q ++ [(g, b)]) := by rfl
theorem guardR_q (σ : St) (p : List (Nat × Bool)) (pre post : List Prop) (v : AV) (t : List Nat) : guardR σ p (some ⟨pre, post, v, [], none, t⟩) = some ⟨guardL σ.s p pre, [], .gd p v, [], none, t⟩ := by rfl
theorem guardR_u (σ : St) (e : Nat × Bool) (pre post : List Prop) (v : AV) (u : Nat × Blk) (us : List (Nat × Blk)) (t : List Nat) : guardR σ [e] (some ⟨pre, post, v, u :: us, none, t⟩) = guardU σ e pre v t (mergeU (pathB σ.s [e]) σ.m (u :: us)) := by
  simp only [guardR]; cases mergeU (pathB σ.s [e]) σ.m (u :: us) <;> rfl
theorem guardU_some (σ : St) (e : Nat × Bool) (pre : List Prop) (v : AV) (t : List Nat) (us : List (Nat × Blk)) : guardU σ e pre v t (some us) = some ⟨guardL σ.s [e] pre, [], .gd [e] v, us, none, t⟩ := by rfl
theorem guardL_nil (s : Nat → AV) (p : List (Nat × Bool)) : guardL s p [] = [] := by rfl
theorem guardL_cons (s : Nat → AV) (p : List (Nat × Bool)) (q : Prop) (qs : List Prop) : guardL s p (q :: qs) = (pathP s p → q) :: guardL s p qs := by rfl
theorem pathP_nil (s : Nat → AV) : pathP s [] = True := by rfl
theorem pathP_cons (s : Nat → AV) (g : Nat) (b : Bool) (p : List (Nat × Bool)) : pathP s ((g, b) :: p) = (boolOf (s g) = some b ∧ pathP s p) := by rfl
theorem pathB_nil (s : Nat → AV) : pathB s [] = true := by rfl
theorem pathB_cons (s : Nat → AV) (g : Nat) (b : Bool) (p : List (Nat × Bool)) : pathB s ((g, b) :: p) = (beqO b (boolOf (s g)) && pathB s p) := by
  simp only [pathB]; cases boolOf (s g) <;> rfl
theorem boolOf_bool (c : Bool) : boolOf (.bool c) = some c := by rfl
theorem boolOf_gd (q : List (Nat × Bool)) (c : Bool) : boolOf (.gd q (.bool c)) = some c := by rfl
theorem askL_nil (K : Prop) : askL [] K = K := by rfl
theorem askL_cons (q : Prop) (qs : List Prop) (K : Prop) : askL (q :: qs) K = (q ∧ askL qs K) := by rfl
theorem knowL_nil (K : Prop) : knowL [] K = K := by rfl
theorem knowL_cons (q : Prop) (qs : List Prop) (K : Prop) : knowL (q :: qs) K = (q → knowL qs K) := by rfl
theorem put_q (s : Nat → AV) (m : Nat → Option Blk) (d : Nat) (p q : List Prop) (v : AV) (t : List Nat) : St.put ⟨s, m⟩ (some d) ⟨p, q, v, [], none, t⟩ = ⟨upd s d v, m⟩ := by rfl
theorem put_u (s : Nat → AV) (m : Nat → Option Blk) (d : Nat) (p q : List Prop) (v : AV) (r : Nat) (b : Blk) (t : List Nat) : St.put ⟨s, m⟩ (some d) ⟨p, q, v, [(r, b)], none, t⟩ = ⟨upd s d v, updM m r (liveB b)⟩ := by rfl
theorem put_n (s : Nat → AV) (m : Nat → Option Blk) (d : Nat) (p q : List Prop) (v : AV) (i : Nat) (b : Blk) (t : List Nat) : St.put ⟨s, m⟩ (some d) ⟨p, q, v, [], some (i, b), t⟩ = ⟨upd (killS i s) d v, updM (killM i m) i (some (killB i b))⟩ := by rfl
theorem put_s (s : Nat → AV) (m : Nat → Option Blk) (p q : List Prop) (v : AV) (r : Nat) (b : Blk) (t : List Nat) : St.put ⟨s, m⟩ none ⟨p, q, v, [(r, b)], none, t⟩ = ⟨s, updM m r (liveB b)⟩ := by rfl
theorem upd_at (s : Nat → AV) (d : Nat) (v : AV) (k : Nat) : upd s d v k = if k = d then v else s k := by rfl
theorem updM_at (m : Nat → Option Blk) (d : Nat) (v : Option Blk) (k : Nat) : updM m d v k = if k = d then v else m k := by rfl
theorem killS_at (r : Nat) (s : Nat → AV) (k : Nat) : killS r s k = kill3 r (s k) := by rfl
theorem ungdS_at (s : Nat → AV) (k : Nat) : ungdS s k = ungd (s k) := by rfl
theorem killM_at (r : Nat) (m : Nat → Option Blk) (k : Nat) : killM r m k = killO r (m k) := by
  simp only [killM]; cases m k <;> rfl
theorem killB_cells (r : Nat) (cs : List AV) : killB r (.cells cs) = .cells (cs.map (kill0 r)) := by rfl
theorem kill3_gd' (r : Nat) (q : List (Nat × Bool)) (v : AV) : kill3 r (.gd q v) = .gd q (kill2 r v) := by rfl
theorem av_t (s : Nat → AV) (m : Nat → Option Blk) (p : List (Nat × Bool)) (n : Nat) : av ⟨s, m⟩ p (.t n) = gv p (s n) := by rfl
theorem av_c (σ : St) (p : List (Nat × Bool)) (v : AV) : av σ p (.c v) = gv p v := by rfl
theorem ar_t (s : Nat → AV) (m : Nat → Option Blk) (n : Nat) : ar ⟨s, m⟩ (.t n) = s n := by rfl
theorem ar_c (σ : St) (v : AV) : ar σ (.c v) = v := by rfl
theorem avs_nil (σ : St) (p : List (Nat × Bool)) : avs σ p [] = some [] := by rfl
theorem avs_cons (σ : St) (p : List (Nat × Bool)) (x : A) (xs : List A) : avs σ p (x :: xs) = consO (av σ p x) (avs σ p xs) := by
  simp only [avs]; cases av σ p x <;> cases avs σ p xs <;> rfl
theorem bind1_some' (v : AV) (f : AV → Option Res) : bind1 (some v) f = f v := by rfl
theorem bind2_some' (v w : AV) (f : AV → AV → Option Res) : bind2 (some v) (some w) f = f v w := by rfl
theorem ev_mov (Φ : Nat → Option Ctr) (x : A) (d : Nat) (p : List (Nat × Bool)) (σ : St) : evOp Φ (.mov x) d p σ = bind1 (av σ p x) (un1 (.mov x)) := by rfl
theorem ev_not (Φ : Nat → Option Ctr) (x : A) (d : Nat) (p : List (Nat × Bool)) (σ : St) : evOp Φ (.not x) d p σ = bind1 (av σ p x) (un1 (.not x)) := by rfl
theorem ev_neg (Φ : Nat → Option Ctr) (x : A) (d : Nat) (p : List (Nat × Bool)) (σ : St) : evOp Φ (.neg x) d p σ = bind1 (av σ p x) (un1 (.neg x)) := by rfl
theorem ev_conv (Φ : Nat → Option Ctr) (k : IntKind) (x : A) (d : Nat) (p : List (Nat × Bool)) (σ : St) : evOp Φ (.conv k x) d p σ = bind1 (av σ p x) (un1 (.conv k x)) := by rfl
theorem ev_extract (Φ : Nat → Option Ctr) (i : Nat) (x : A) (d : Nat) (p : List (Nat × Bool)) (σ : St) : evOp Φ (.extract i x) d p σ = bind1 (av σ p x) (un1 (.extract i x)) := by rfl
theorem ev_nilchk (Φ : Nat → Option Ctr) (x : A) (d : Nat) (p : List (Nat × Bool)) (σ : St) : evOp Φ (.nilchk x) d p σ = bind1 (av σ p x) (un1 (.nilchk x)) := by rfl
theorem un1_mov (x : A) (v : AV) : un1 (.mov x) v = some ⟨[], [], v, [], none, []⟩ := by rfl
theorem un1_not (x : A) (b : Bool) : un1 (.not x) (.bool b) = some ⟨[], [], .bool !b, [], none, []⟩ := by rfl
theorem un1_neg (x : A) (k : IntKind) (n : Int) : un1 (.neg x) (.int k n) = some ⟨[], [], .int k (k.wrap (0 - n)), [], none, []⟩ := by rfl
theorem un1_conv (x : A) (k k' : IntKind) (n : Int) : un1 (.conv k x) (.int k' n) = some ⟨[], [], .int k (k.wrap n), [], none, []⟩ := by rfl
theorem un1_nilchk (x : A) (r o : Nat) : un1 (.nilchk x) (.ptr r o) = some ⟨[], [], .ptr r o, [], none, []⟩ := by rfl
theorem un1_extract (i : Nat) (x : A) (vs : List AV) : un1 (.extract i x) (.tup vs) = toR vs[i]? := by
  simp only [un1]; cases vs[i]? <;> rfl
theorem toR_some' (v : AV) : toR (some v) = some ⟨[], [], v, [], none, []⟩ := by rfl
theorem ev_pick (Φ : Nat → Option Ctr) (k : Nat) (a b : A) (d : Nat) (p : List (Nat × Bool)) (σ : St) : evOp Φ (.pick (.t k) a b) d p σ = pick3 (av σ p (.t k)) (av σ (p ++ [(k, true)]) a) (av σ (p ++ [(k, false)]) b) := by
  simp only [evOp, slotOf]; cases av σ p (.t k) <;> cases av σ (p ++ [(k, true)]) a <;> cases av σ (p ++ [(k, false)]) b <;> rfl
theorem pick3_some (c a b : AV) : pick3 (some c) (some a) (some b) = pickV c a b := by rfl
theorem pickV_bool (c a b : Bool) : pickV (.bool c) (.bool a) (.bool b) = some ⟨[], [], .bool (bif c then a else b), [], none, []⟩ := by rfl
theorem ev_arith (Φ : Nat → Option Ctr) (op : BinOp) (x y : A) (d : Nat) (p : List (Nat × Bool)) (σ : St) : evOp Φ (.arith op x y) d p σ = bind2 (av σ p x) (av σ p y) (arithR op) := by rfl
theorem arith_add (k : IntKind) (a b : Int) : arithR .add (.int k a) (.int k b) = some ⟨[], [], .int k (k.wrap (a + b)), [], none, []⟩ := by
  simp only [arithR, if_true]; rfl
theorem arith_sub (k : IntKind) (a b : Int) : arithR .sub (.int k a) (.int k b) = some ⟨[], [], .int k (k.wrap (a - b)), [], none, []⟩ := by
  simp only [arithR, if_true]; rfl
theorem arith_mul (k : IntKind) (a b : Int) : arithR .mul (.int k a) (.int k b) = some ⟨[], [], .int k (k.wrap (a * b)), [], none, []⟩ := by
  simp only [arithR, if_true]; rfl
theorem arith_and (k : IntKind) (a b : Int) : arithR .and (.int k a) (.int k b) = some ⟨[], [], .int k (bitsI .and k a b), [], none, []⟩ := by
  simp only [arithR, if_true]; rfl
theorem arith_or (k : IntKind) (a b : Int) : arithR .or (.int k a) (.int k b) = some ⟨[], [], .int k (bitsI .or k a b), [], none, []⟩ := by
  simp only [arithR, if_true]; rfl
theorem arith_xor (k : IntKind) (a b : Int) : arithR .xor (.int k a) (.int k b) = some ⟨[], [], .int k (bitsI .xor k a b), [], none, []⟩ := by
  simp only [arithR, if_true]; rfl
theorem arith_andNot (k : IntKind) (a b : Int) : arithR .andNot (.int k a) (.int k b) = some ⟨[], [], .int k (bitsI .andNot k a b), [], none, []⟩ := by
  simp only [arithR, if_true]; rfl
theorem arith_quo (k : IntKind) (a b : Int) : arithR .quo (.int k a) (.int k b) = some ⟨[b ≠ 0], [], .int k (k.wrap (a.tdiv b)), [], none, []⟩ := by
  simp only [arithR, if_true]; rfl
theorem arith_rem (k : IntKind) (a b : Int) : arithR .rem (.int k a) (.int k b) = some ⟨[b ≠ 0], [], .int k (a.tmod b), [], none, []⟩ := by
  simp only [arithR, if_true]; rfl
theorem ev_cmp (Φ : Nat → Option Ctr) (op : BinOp) (ty : Nat) (x y : A) (d : Nat) (p : List (Nat × Bool)) (σ : St) : evOp Φ (.cmp op ty x y) d p σ = cmp2 op ty (av σ p x) (av σ p y) := by
  simp only [evOp]; cases av σ p x <;> cases av σ p y <;> rfl
theorem cmp2_some (op : BinOp) (ty : Nat) (v w : AV) : cmp2 op ty (some v) (some w) = toR (cmpR op ty v w) := by rfl
theorem cmp_eql (k : IntKind) (a b : Int) : cmpR .eql 0 (.int k a) (.int k b) = some (.bool (decide (a = b))) := by
  simp only [cmpR, if_true]
theorem cmp_neq (k : IntKind) (a b : Int) : cmpR .neq 0 (.int k a) (.int k b) = some (.bool (!decide (a = b))) := by
  simp only [cmpR, if_true]
theorem cmp_lss (k : IntKind) (a b : Int) : cmpR .lss 0 (.int k a) (.int k b) = some (.bool (decide (a < b))) := by
  simp only [cmpR, if_true]
theorem cmp_leq (k : IntKind) (a b : Int) : cmpR .leq 0 (.int k a) (.int k b) = some (.bool (decide (a ≤ b))) := by
  simp only [cmpR, if_true]
theorem cmp_gtr (k : IntKind) (a b : Int) : cmpR .gtr 0 (.int k a) (.int k b) = some (.bool (decide (b < a))) := by
  simp only [cmpR, if_true]
theorem cmp_geq (k : IntKind) (a b : Int) : cmpR .geq 0 (.int k a) (.int k b) = some (.bool (decide (b ≤ a))) := by
  simp only [cmpR, if_true]
theorem cmp_eqlB (a b : Bool) : cmpR .eql 1 (.bool a) (.bool b) = some (.bool (a == b)) := by rfl
theorem cmp_neqB (a b : Bool) : cmpR .neq 1 (.bool a) (.bool b) = some (.bool (!(a == b))) := by rfl
theorem cmp_eqlS (a b : List UInt8) : cmpR .eql 2 (.str a) (.str b) = some (.bool (decide (a = b))) := by rfl
theorem cmp_neqS (a b : List UInt8) : cmpR .neq 2 (.str a) (.str b) = some (.bool (!decide (a = b))) := by rfl
theorem ev_eqa (Φ : Nat → Option Ctr) (ng : Bool) (sh : List Nat) (x y : A) (d : Nat) (p : List (Nat × Bool)) (σ : St) : evOp Φ (.eqa ng sh x y) d p σ = eqa2 ng sh (av σ p x) (av σ p y) := by
  simp only [evOp]; cases av σ p x <;> cases av σ p y <;> rfl
theorem eqa2_some (ng : Bool) (sh : List Nat) (v w : AV) : eqa2 ng sh (some v) (some w) = toR (eqaR ng sh v w) := by rfl
theorem eqaR_agg (ng : Bool) (sh : List Nat) (xs ys : List AV) : eqaR ng sh (.agg xs) (.agg ys) = eqaB ng (eqCells sh xs ys) := by
  simp only [eqaR]; cases eqCells sh xs ys <;> rfl
theorem eqC_nil : eqCells [] [] [] = some true := by rfl
theorem eqC_int (sh : List Nat) (k : IntKind) (a b : Int) (xs ys : List AV) : eqCells (0 :: sh) (.int k a :: xs) (.int k b :: ys) = andO (decide (a = b)) (eqCells sh xs ys) := by
  simp only [eqCells, if_true]; cases eqCells sh xs ys <;> rfl
theorem eqC_bool (sh : List Nat) (a b : Bool) (xs ys : List AV) : eqCells (1 :: sh) (.bool a :: xs) (.bool b :: ys) = andO (a == b) (eqCells sh xs ys) := by
  simp only [eqCells]; cases eqCells sh xs ys <;> rfl
theorem eqC_str (sh : List Nat) (a b : List UInt8) (xs ys : List AV) : eqCells (2 :: sh) (.str a :: xs) (.str b :: ys) = andO (decide (a = b)) (eqCells sh xs ys) := by
  simp only [eqCells]; cases eqCells sh xs ys <;> rfl
theorem ev_len (Φ : Nat → Option Ctr) (ty : Nat) (x : A) (d : Nat) (p : List (Nat × Bool)) (σ : St) : evOp Φ (.len ty x) d p σ = bind1 (av σ p x) (lenM σ.m ty) := by rfl
theorem len_lst (m : Nat → Option Blk) (z : List AV) (es : List (List AV)) : lenM m 0 (.lst z es) = some ⟨[], [es.length ≤ 9223372036854775807], .int .i64 es.length, [], none, []⟩ := by rfl
theorem len_nil (m : Nat → Option Blk) : lenM m 0 .nil = some ⟨[], [], .int .i64 0, [], none, []⟩ := by rfl
theorem len_str (m : Nat → Option Blk) (s : List UInt8) : lenM m 1 (.str s) = some ⟨[], [], .int .i64 s.length, [], none, []⟩ := by rfl
theorem ev_minmax (Φ : Nat → Option Ctr) (mx : Bool) (xs : List A) (d : Nat) (p : List (Nat × Bool)) (σ : St) : evOp Φ (.minmax mx xs) d p σ = mmO mx (avs σ p xs) := by
  simp only [evOp]; cases avs σ p xs with
  | none => rfl
  | some vs => cases vs with
    | nil => rfl
    | cons x xs => cases x <;> rfl
theorem mm_nil (mx : Bool) (v : AV) : minmaxL mx v [] = some v := by rfl
theorem mm_max (k : IntKind) (a b : Int) (vs : List AV) : minmaxL true (.int k a) (.int k b :: vs) = minmaxL true (.int k (max a b)) vs := by
  simp only [minmaxL, minmaxR, if_true]
  have : (if b > a then b else a) = max a b := by omega
  rw [this]
theorem mm_min (k : IntKind) (a b : Int) (vs : List AV) : minmaxL false (.int k a) (.int k b :: vs) = minmaxL false (.int k (min a b)) vs := by
  simp only [minmaxL, minmaxR, if_true]
  have : (if b < a then b else a) = min a b := by omega
  rw [this]
theorem ev_faddr (Φ : Nat → Option Ctr) (off : Nat) (x : A) (d : Nat) (p : List (Nat × Bool)) (σ : St) : evOp Φ (.faddr off x) d p σ = bind1 (av σ p x) (faddrR off) := by rfl
theorem faddr_ptr (off r o : Nat) : faddrR off (.ptr r o) = some ⟨[], [], .ptr r (o + off), [], none, []⟩ := by rfl
theorem faddr_ep (off : Nat) (z : List AV) (es : List (List AV)) (i o : Nat) : faddrR off (.ep z es i o) = some ⟨[], [], .ep z es i (o + off), [], none, []⟩ := by rfl
theorem ev_iaddrS (Φ : Nat → Option Ctr) (sz : List AV) (x i : A) (d : Nat) (p : List (Nat × Bool)) (σ : St) : evOp Φ (.iaddrS sz x i) d p σ = bind2 (av σ p x) (av σ p i) (iaddrSM σ.m sz) := by rfl
theorem ev_iaddrA (Φ : Nat → Option Ctr) (n sz : Nat) (x i : A) (d : Nat) (p : List (Nat × Bool)) (σ : St) : evOp Φ (.iaddrA n sz x i) d p σ = iaA n sz i (av σ p x) (av σ p i) := by
  simp only [evOp]; cases av σ p x <;> cases av σ p i <;> rfl
theorem iaddrA_ptr (n sz r o : Nat) (k : IntKind) (j : Int) (u : AV) : iaddrAR n sz (.ptr r o) (.c (.int k j)) u = some ⟨[0 ≤ j ∧ j < n], [], .ptr r (o + j.toNat * sz), [], none, []⟩ := by cases u <;> rfl
theorem iaddrA_t (n sz r o d : Nat) (k : IntKind) (j : Int) : iaddrAR n sz (.ptr r o) (.t d) (.int k j) = some ⟨[0 ≤ j ∧ j < n], [], .ptr r (o + sel n j * sz), [], none, []⟩ := by rfl
theorem val_sel2 (k : IntKind) (a0 a1 : Int) (j : Int) : ([.int k a0, .int k a1] : List AV)[sel 2 j]? = some (.int k ([a0, a1].getD (sel 2 j) 0)) := by
  have h : sel 2 j < 2 := by unfold sel; split <;> omega
  generalize sel 2 j = m at h ⊢
  rcases (by omega : m = 0 ∨ m = 1) with rfl | rfl <;> rfl
theorem val_sel3 (k : IntKind) (a0 a1 a2 : Int) (j : Int) : ([.int k a0, .int k a1, .int k a2] : List AV)[sel 3 j]? = some (.int k ([a0, a1, a2].getD (sel 3 j) 0)) := by
  have h : sel 3 j < 3 := by unfold sel; split <;> omega
  generalize sel 3 j = m at h ⊢
  rcases (by omega : m = 0 ∨ m = 1 ∨ m = 2) with rfl | rfl | rfl <;> rfl
theorem val_sel4 (k : IntKind) (a0 a1 a2 a3 : Int) (j : Int) : ([.int k a0, .int k a1, .int k a2, .int k a3] : List AV)[sel 4 j]? = some (.int k ([a0, a1, a2, a3].getD (sel 4 j) 0)) := by
  have h : sel 4 j < 4 := by unfold sel; split <;> omega
  generalize sel 4 j = m at h ⊢
  rcases (by omega : m = 0 ∨ m = 1 ∨ m = 2 ∨ m = 3) with rfl | rfl | rfl | rfl <;> rfl
theorem val_sel5 (k : IntKind) (a0 a1 a2 a3 a4 : Int) (j : Int) : ([.int k a0, .int k a1, .int k a2, .int k a3, .int k a4] : List AV)[sel 5 j]? = some (.int k ([a0, a1, a2, a3, a4].getD (sel 5 j) 0)) := by
  have h : sel 5 j < 5 := by unfold sel; split <;> omega
  generalize sel 5 j = m at h ⊢
  rcases (by omega : m = 0 ∨ m = 1 ∨ m = 2 ∨ m = 3 ∨ m = 4) with rfl | rfl | rfl | rfl | rfl <;> rfl
theorem val_sel6 (k : IntKind) (a0 a1 a2 a3 a4 a5 : Int) (j : Int) : ([.int k a0, .int k a1, .int k a2, .int k a3, .int k a4, .int k a5] : List AV)[sel 6 j]? = some (.int k ([a0, a1, a2, a3, a4, a5].getD (sel 6 j) 0)) := by
  have h : sel 6 j < 6 := by unfold sel; split <;> omega
  generalize sel 6 j = m at h ⊢
  rcases (by omega : m = 0 ∨ m = 1 ∨ m = 2 ∨ m = 3 ∨ m = 4 ∨ m = 5) with rfl | rfl | rfl | rfl | rfl | rfl <;> rfl
theorem val_sel7 (k : IntKind) (a0 a1 a2 a3 a4 a5 a6 : Int) (j : Int) : ([.int k a0, .int k a1, .int k a2, .int k a3, .int k a4, .int k a5, .int k a6] : List AV)[sel 7 j]? = some (.int k ([a0, a1, a2, a3, a4, a5, a6].getD (sel 7 j) 0)) := by
  have h : sel 7 j < 7 := by unfold sel; split <;> omega
  generalize sel 7 j = m at h ⊢
  rcases (by omega : m = 0 ∨ m = 1 ∨ m = 2 ∨ m = 3 ∨ m = 4 ∨ m = 5 ∨ m = 6) with rfl | rfl | rfl | rfl | rfl | rfl | rfl <;> rfl
theorem val_sel8 (k : IntKind) (a0 a1 a2 a3 a4 a5 a6 a7 : Int) (j : Int) : ([.int k a0, .int k a1, .int k a2, .int k a3, .int k a4, .int k a5, .int k a6, .int k a7] : List AV)[sel 8 j]? = some (.int k ([a0, a1, a2, a3, a4, a5, a6, a7].getD (sel 8 j) 0)) := by
  have h : sel 8 j < 8 := by unfold sel; split <;> omega
  generalize sel 8 j = m at h ⊢
  rcases (by omega : m = 0 ∨ m = 1 ∨ m = 2 ∨ m = 3 ∨ m = 4 ∨ m = 5 ∨ m = 6 ∨ m = 7) with rfl | rfl | rfl | rfl | rfl | rfl | rfl | rfl <;> rfl
theorem val_sel9 (k : IntKind) (a0 a1 a2 a3 a4 a5 a6 a7 a8 : Int) (j : Int) : ([.int k a0, .int k a1, .int k a2, .int k a3, .int k a4, .int k a5, .int k a6, .int k a7, .int k a8] : List AV)[sel 9 j]? = some (.int k ([a0, a1, a2, a3, a4, a5, a6, a7, a8].getD (sel 9 j) 0)) := by
  have h : sel 9 j < 9 := by unfold sel; split <;> omega
  generalize sel 9 j = m at h ⊢
  rcases (by omega : m = 0 ∨ m = 1 ∨ m = 2 ∨ m = 3 ∨ m = 4 ∨ m = 5 ∨ m = 6 ∨ m = 7 ∨ m = 8) with rfl | rfl | rfl | rfl | rfl | rfl | rfl | rfl | rfl <;> rfl
theorem val_sel10 (k : IntKind) (a0 a1 a2 a3 a4 a5 a6 a7 a8 a9 : Int) (j : Int) : ([.int k a0, .int k a1, .int k a2, .int k a3, .int k a4, .int k a5, .int k a6, .int k a7, .int k a8, .int k a9] : List AV)[sel 10 j]? = some (.int k ([a0, a1, a2, a3, a4, a5, a6, a7, a8, a9].getD (sel 10 j) 0)) := by
  have h : sel 10 j < 10 := by unfold sel; split <;> omega
  generalize sel 10 j = m at h ⊢
  rcases (by omega : m = 0 ∨ m = 1 ∨ m = 2 ∨ m = 3 ∨ m = 4 ∨ m = 5 ∨ m = 6 ∨ m = 7 ∨ m = 8 ∨ m = 9) with rfl | rfl | rfl | rfl | rfl | rfl | rfl | rfl | rfl | rfl <;> rfl
theorem val_sel11 (k : IntKind) (a0 a1 a2 a3 a4 a5 a6 a7 a8 a9 a10 : Int) (j : Int) : ([.int k a0, .int k a1, .int k a2, .int k a3, .int k a4, .int k a5, .int k a6, .int k a7, .int k a8, .int k a9, .int k a10] : List AV)[sel 11 j]? = some (.int k ([a0, a1, a2, a3, a4, a5, a6, a7, a8, a9, a10].getD (sel 11 j) 0)) := by
  have h : sel 11 j < 11 := by unfold sel; split <;> omega
  generalize sel 11 j = m at h ⊢
  rcases (by omega : m = 0 ∨ m = 1 ∨ m = 2 ∨ m = 3 ∨ m = 4 ∨ m = 5 ∨ m = 6 ∨ m = 7 ∨ m = 8 ∨ m = 9 ∨ m = 10) with rfl | rfl | rfl | rfl | rfl | rfl | rfl | rfl | rfl | rfl | rfl <;> rfl
theorem val_sel12 (k : IntKind) (a0 a1 a2 a3 a4 a5 a6 a7 a8 a9 a10 a11 : Int) (j : Int) : ([.int k a0, .int k a1, .int k a2, .int k a3, .int k a4, .int k a5, .int k a6, .int k a7, .int k a8, .int k a9, .int k a10, .int k a11] : List AV)[sel 12 j]? = some (.int k ([a0, a1, a2, a3, a4, a5, a6, a7, a8, a9, a10, a11].getD (sel 12 j) 0)) := by
  have h : sel 12 j < 12 := by unfold sel; split <;> omega
  generalize sel 12 j = m at h ⊢
  rcases (by omega : m = 0 ∨ m = 1 ∨ m = 2 ∨ m = 3 ∨ m = 4 ∨ m = 5 ∨ m = 6 ∨ m = 7 ∨ m = 8 ∨ m = 9 ∨ m = 10 ∨ m = 11) with rfl | rfl | rfl | rfl | rfl | rfl | rfl | rfl | rfl | rfl | rfl | rfl <;> rfl
theorem val_sel13 (k : IntKind) (a0 a1 a2 a3 a4 a5 a6 a7 a8 a9 a10 a11 a12 : Int) (j : Int) : ([.int k a0, .int k a1, .int k a2, .int k a3, .int k a4, .int k a5, .int k a6, .int k a7, .int k a8, .int k a9, .int k a10, .int k a11, .int k a12] : List AV)[sel 13 j]? = some (.int k ([a0, a1, a2, a3, a4, a5, a6, a7, a8, a9, a10, a11, a12].getD (sel 13 j) 0)) := by
  have h : sel 13 j < 13 := by unfold sel; split <;> omega
  generalize sel 13 j = m at h ⊢
  rcases (by omega : m = 0 ∨ m = 1 ∨ m = 2 ∨ m = 3 ∨ m = 4 ∨ m = 5 ∨ m = 6 ∨ m = 7 ∨ m = 8 ∨ m = 9 ∨ m = 10 ∨ m = 11 ∨ m = 12) with rfl | rfl | rfl | rfl | rfl | rfl | rfl | rfl | rfl | rfl | rfl | rfl | rfl <;> rfl
theorem val_sel14 (k : IntKind) (a0 a1 a2 a3 a4 a5 a6 a7 a8 a9 a10 a11 a12 a13 : Int) (j : Int) : ([.int k a0, .int k a1, .int k a2, .int k a3, .int k a4, .int k a5, .int k a6, .int k a7, .int k a8, .int k a9, .int k a10, .int k a11, .int k a12, .int k a13] : List AV)[sel 14 j]? = some (.int k ([a0, a1, a2, a3, a4, a5, a6, a7, a8, a9, a10, a11, a12, a13].getD (sel 14 j) 0)) := by
  have h : sel 14 j < 14 := by unfold sel; split <;> omega
  generalize sel 14 j = m at h ⊢
  rcases (by omega : m = 0 ∨ m = 1 ∨ m = 2 ∨ m = 3 ∨ m = 4 ∨ m = 5 ∨ m = 6 ∨ m = 7 ∨ m = 8 ∨ m = 9 ∨ m = 10 ∨ m = 11 ∨ m = 12 ∨ m = 13) with rfl | rfl | rfl | rfl | rfl | rfl | rfl | rfl | rfl | rfl | rfl | rfl | rfl | rfl <;> rfl
theorem val_sel15 (k : IntKind) (a0 a1 a2 a3 a4 a5 a6 a7 a8 a9 a10 a11 a12 a13 a14 : Int) (j : Int) : ([.int k a0, .int k a1, .int k a2, .int k a3, .int k a4, .int k a5, .int k a6, .int k a7, .int k a8, .int k a9, .int k a10, .int k a11, .int k a12, .int k a13, .int k a14] : List AV)[sel 15 j]? = some (.int k ([a0, a1, a2, a3, a4, a5, a6, a7, a8, a9, a10, a11, a12, a13, a14].getD (sel 15 j) 0)) := by
  have h : sel 15 j < 15 := by unfold sel; split <;> omega
  generalize sel 15 j = m at h ⊢
  rcases (by omega : m = 0 ∨ m = 1 ∨ m = 2 ∨ m = 3 ∨ m = 4 ∨ m = 5 ∨ m = 6 ∨ m = 7 ∨ m = 8 ∨ m = 9 ∨ m = 10 ∨ m = 11 ∨ m = 12 ∨ m = 13 ∨ m = 14) with rfl | rfl | rfl | rfl | rfl | rfl | rfl | rfl | rfl | rfl | rfl | rfl | rfl | rfl | rfl <;> rfl
theorem val_sel16 (k : IntKind) (a0 a1 a2 a3 a4 a5 a6 a7 a8 a9 a10 a11 a12 a13 a14 a15 : Int) (j : Int) : ([.int k a0, .int k a1, .int k a2, .int k a3, .int k a4, .int k a5, .int k a6, .int k a7, .int k a8, .int k a9, .int k a10, .int k a11, .int k a12, .int k a13, .int k a14, .int k a15] : List AV)[sel 16 j]? = some (.int k ([a0, a1, a2, a3, a4, a5, a6, a7, a8, a9, a10, a11, a12, a13, a14, a15].getD (sel 16 j) 0)) := by
  have h : sel 16 j < 16 := by unfold sel; split <;> omega
  generalize sel 16 j = m at h ⊢
  rcases (by omega : m = 0 ∨ m = 1 ∨ m = 2 ∨ m = 3 ∨ m = 4 ∨ m = 5 ∨ m = 6 ∨ m = 7 ∨ m = 8 ∨ m = 9 ∨ m = 10 ∨ m = 11 ∨ m = 12 ∨ m = 13 ∨ m = 14 ∨ m = 15) with rfl | rfl | rfl | rfl | rfl | rfl | rfl | rfl | rfl | rfl | rfl | rfl | rfl | rfl | rfl | rfl <;> rfl

theorem ev_load (Φ : Nat → Option Ctr) (n : Nat) (ag : Bool) (x : A) (d : Nat) (p : List (Nat × Bool)) (σ : St) : evOp Φ (.load n ag x) d p σ = bind1 (av σ p x) (loadR σ.m n ag) := by rfl
theorem load_ptr (m : Nat → Option Blk) (n : Nat) (ag : Bool) (r o : Nat) : loadR m n ag (.ptr r o) = ldB n ag o r (m r) := by
  simp only [loadR]; cases m r with
  | none => rfl
  | some b => cases b <;> rfl
theorem load_ep (m : Nat → Option Blk) (n : Nat) (ag : Bool) (z : List AV) (es : List (List AV)) (i o : Nat) : loadR m n ag (.ep z es i o) = ldV [] (valOf ag n (getE z es i) o) := by
  simp only [loadR]; cases valOf ag n (getE z es i) o <;> rfl
theorem valOf_agg (n : Nat) (cs : List AV) (off : Nat) : valOf true n cs off = valB n cs off (decide (off + n ≤ cs.length)) := by
  simp only [valOf]; by_cases h : off + n ≤ cs.length
  · rw [if_pos h, decide_eq_true h]; rfl
  · rw [if_neg h, decide_eq_false h]; rfl
theorem valOf_one (cs : List AV) (off : Nat) : valOf false 1 cs off = cs[off]? := by rfl
theorem ev_store (Φ : Nat → Option Ctr) (n : Nat) (x v : A) (d : Nat) (p : List (Nat × Bool)) (σ : St) : evOp Φ (.store n x v) d p σ = bind2 (av σ p x) (av σ p v) (storeR σ.m n) := by rfl
theorem store_ptr (m : Nat → Option Blk) (n : Nat) (r o : Nat) (v : AV) : storeR m n (.ptr r o) v = stB n o r (cellsOfAV n v) (m r) := by
  simp only [storeR]; cases cellsOfAV n v with
  | none => rfl
  | some vs => cases m r with
    | none => rfl
    | some b => cases b with
      | buf => rfl
      | qb => rfl
      | ms => rfl
      | clo => rfl
      | dead => rfl
      | cells cs =>
        simp only [stB]
        by_cases h : o + n ≤ cs.length
        · rw [if_pos h, decide_eq_true h]
        · rw [if_neg h, decide_eq_false h]
theorem setC_nil (cs : List AV) (o : Nat) : setCells cs o [] = cs := by rfl
theorem setC_cons (cs : List AV) (o : Nat) (v : AV) (vs : List AV) : setCells cs o (v :: vs) = setCells (cs.set o v) (o + 1) vs := by rfl
theorem cells_agg (n : Nat) (cs : List AV) : cellsOfAV n (.agg cs) = if cs.length = n then some cs else none := by rfl
theorem cells_int (k : IntKind) (n : Int) : cellsOfAV 1 (AV.int k n) = some [(AV.int k n)] := by rfl
theorem cells_bool (b : Bool) : cellsOfAV 1 (AV.bool b) = some [(AV.bool b)] := by rfl
theorem cells_str (s : List UInt8) : cellsOfAV 1 (AV.str s) = some [(AV.str s)] := by rfl
theorem cells_lst (z : List AV) (es : List (List AV)) : cellsOfAV 1 (AV.lst z es) = some [(AV.lst z es)] := by rfl
theorem cells_ep (z : List AV) (es : List (List AV)) (i o : Nat) : cellsOfAV 1 (AV.ep z es i o) = some [(AV.ep z es i o)] := by rfl
theorem cells_ptr (r o : Nat) : cellsOfAV 1 (AV.ptr r o) = some [(AV.ptr r o)] := by rfl
theorem cells_ap (r o n i : Nat) : cellsOfAV 1 (AV.ap r o n i) = some [(AV.ap r o n i)] := by rfl
theorem cells_vw (r z l h : Nat) : cellsOfAV 1 (AV.vw r z l h) = some [(AV.vw r z l h)] := by rfl
theorem cells_bp (r z i o : Nat) : cellsOfAV 1 (AV.bp r z i o) = some [(AV.bp r z i o)] := by rfl
theorem cells_fn (f : Nat) : cellsOfAV 1 (AV.fn f) = some [(AV.fn f)] := by rfl
theorem cells_nil  : cellsOfAV 1 AV.nil = some [AV.nil] := by rfl
theorem ev_alloc (Φ : Nat → Option Ctr) (z : List AV) (d : Nat) (p : List (Nat × Bool)) (σ : St) : evOp Φ (.alloc z) d p σ = some ⟨[], [], .ptr ((64 * d + 64)) 0, [], some ((64 * d + 64), .cells z), []⟩ := by rfl
theorem ev_box (Φ : Nat → Option Ctr) (n : Nat) (x : A) (d : Nat) (p : List (Nat × Bool)) (σ : St) : evOp Φ (.box n x) d p σ = bind1 (av σ p x) (boxR n d) := by rfl
theorem boxR_eq (n d : Nat) (v : AV) : boxR n d v = bxO d (cellsOfAV n v) := by
  simp only [boxR]; cases cellsOfAV n v <;> rfl
theorem ev_build (Φ : Nat → Option Ctr) (z : List AV) (ps : List (Nat × Nat × A)) (d : Nat) (p : List (Nat × Bool)) (σ : St) : evOp Φ (.build z ps) d p σ = blO (fillA σ p z ps) := by
  simp only [evOp]; cases fillA σ p z ps <;> rfl
theorem ev_bslice (Φ : Nat → Option Ctr) (n : Nat) (z : List AV) (ps : List (Nat × A)) (d : Nat) (p : List (Nat × Bool)) (σ : St) : evOp Φ (.bslice n z ps) d p σ = blS z (fillS σ p z.length (List.replicate n z) ps) := by
  simp only [evOp]; cases fillS σ p z.length (List.replicate n z) ps <;> rfl
theorem fillA_nil (σ : St) (p : List (Nat × Bool)) (cs : List AV) : fillA σ p cs [] = some cs := by rfl
theorem fillA_cons (σ : St) (p : List (Nat × Bool)) (cs : List AV) (off n : Nat) (x : A) (ps : List (Nat × Nat × A)) : fillA σ p cs ((off, n, x) :: ps) = faK σ p cs off n ps (av σ p x) := by
  simp only [fillA]; cases av σ p x <;> rfl
theorem fillS_nil (σ : St) (p : List (Nat × Bool)) (n : Nat) (es : List (List AV)) : fillS σ p n es [] = some es := by rfl
theorem fillS_cons (σ : St) (p : List (Nat × Bool)) (n : Nat) (es : List (List AV)) (i : Nat) (x : A) (ps : List (Nat × A)) : fillS σ p n es ((i, x) :: ps) = fsK σ p n es i ps (av σ p x) := by
  simp only [fillS]; cases av σ p x <;> rfl
theorem ev_call (Φ : Nat → Option Ctr) (f : Nat) (xs : List A) (d : Nat) (p : List (Nat × Bool)) (σ : St) : evOp Φ (.call f xs) d p σ = clE d σ.m (Φ f) (avs σ p xs) := by
  simp only [evOp]; cases avs σ p xs <;> rfl
theorem c0_int (k : IntKind) (n : Int) : AV.clean0 (AV.int k n) = true := by rfl
theorem c1_int (k : IntKind) (n : Int) : AV.clean1 (AV.int k n) = true := by rfl
theorem c2_int (k : IntKind) (n : Int) : AV.clean2 (AV.int k n) = true := by rfl
theorem c0_bool (b : Bool) : AV.clean0 (AV.bool b) = true := by rfl
theorem c1_bool (b : Bool) : AV.clean1 (AV.bool b) = true := by rfl
theorem c2_bool (b : Bool) : AV.clean2 (AV.bool b) = true := by rfl
theorem c0_str (s : List UInt8) : AV.clean0 (AV.str s) = true := by rfl
theorem c1_str (s : List UInt8) : AV.clean1 (AV.str s) = true := by rfl
theorem c2_str (s : List UInt8) : AV.clean2 (AV.str s) = true := by rfl
theorem c0_lst (z : List AV) (es : List (List AV)) : AV.clean0 (AV.lst z es) = true := by rfl
theorem c1_lst (z : List AV) (es : List (List AV)) : AV.clean1 (AV.lst z es) = true := by rfl
theorem c2_lst (z : List AV) (es : List (List AV)) : AV.clean2 (AV.lst z es) = true := by rfl
theorem c0_fn (f : Nat) : AV.clean0 (AV.fn f) = true := by rfl
theorem c1_fn (f : Nat) : AV.clean1 (AV.fn f) = true := by rfl
theorem c2_fn (f : Nat) : AV.clean2 (AV.fn f) = true := by rfl
theorem c0_nil  : AV.clean0 AV.nil = true := by rfl
theorem c1_nil  : AV.clean1 AV.nil = true := by rfl
theorem c2_nil  : AV.clean2 AV.nil = true := by rfl
theorem c1_agg (cs : List AV) : AV.clean1 (.agg cs) = cs.all AV.clean0 := by rfl
theorem c2_agg (cs : List AV) : AV.clean2 (.agg cs) = cs.all AV.clean0 := by rfl
theorem c2_tup (vs : List AV) : AV.clean2 (.tup vs) = vs.all AV.clean1 := by rfl
theorem evC_skip (Φ : Nat → Option Ctr) (I : Nat → LI)  (σ : St) (K : Exit → St → Prop) : evC Φ I .skip σ K = K .normal σ := by rfl
theorem evC_region (Φ : Nat → Option Ctr) (I : Nat → LI) (ops : List RO) (σ : St) (K : Exit → St → Prop) : evC Φ I (.region ops false) σ K = evOps Φ ops σ (kEnd ops K) := by rfl
theorem evC_seq (Φ : Nat → Option Ctr) (I : Nat → LI) (a b : RC) (σ : St) (K : Exit → St → Prop) : evC Φ I (.seq a b) σ K = evC Φ I a σ (kSeq (evC Φ I b) K) := by rfl
theorem evC_cond (Φ : Nat → Option Ctr) (I : Nat → LI) (c : A) (t e : RC) (σ : St) (K : Exit → St → Prop) : evC Φ I (.cond c t e) σ K = condK (evC Φ I t σ K) (evC Φ I e σ K) (ar σ c) := by
  simp only [evC]; cases ar σ c <;> rfl
theorem evC_block (Φ : Nat → Option Ctr) (I : Nat → LI) (id : Nat) (b : RC) (σ : St) (K : Exit → St → Prop) : evC Φ I (.block id b) σ K = evC Φ I b σ (kBlk id K) := by rfl
theorem evC_loop (Φ : Nat → Option Ctr) (I : Nat → LI) (n : Nat) (b : RC) (σ : St) (K : Exit → St → Prop) : evC Φ I (.loop n b) σ K = (∃ i0, ((I n).S i0).ge σ ∧ (I n).R i0 i0 ∧ ∀ i, (I n).R i0 i → evC Φ I b ((I n).S i).st (kLoop (I n) i0 i K)) := by rfl
theorem evC_exit (Φ : Nat → Option Ctr) (I : Nat → LI) (id : Nat) (σ : St) (K : Exit → St → Prop) : evC Φ I (.exit id) σ K = K (.exit id) σ := by rfl
theorem evC_ret (Φ : Nat → Option Ctr) (I : Nat → LI)  (σ : St) (K : Exit → St → Prop) : evC Φ I .ret σ K = K .ret σ := by rfl
theorem kEnd_at (ops : List RO) (K : Exit → St → Prop) (s : Nat → AV) (m : Nat → Option Blk) : kEnd ops K ⟨s, m⟩ = kEndB K s m (hasG ops) := by
  simp only [kEnd, endR]; cases hasG ops <;> rfl
theorem hasG_nil : hasG [] = false := by rfl
theorem hasG_no (d : Option Nat) (op : IOp) (af : List Nat) (l : List RO) : hasG (⟨d, op, none, af⟩ :: l) = hasG l := by rfl
theorem hasG_yes (d : Option Nat) (op : IOp) (g : Nat × Bool) (af : List Nat) (l : List RO) : hasG (⟨d, op, some g, af⟩ :: l) = true := by rfl
theorem kSeq_n (E : St → (Exit → St → Prop) → Prop) (K : Exit → St → Prop) (σ : St) : kSeq E K .normal σ = E σ K := by rfl
theorem kSeq_e (E : St → (Exit → St → Prop) → Prop) (K : Exit → St → Prop) (i : Nat) (σ : St) : kSeq E K (.exit i) σ = K (.exit i) σ := by rfl
theorem kSeq_r (E : St → (Exit → St → Prop) → Prop) (K : Exit → St → Prop) (σ : St) : kSeq E K .ret σ = K .ret σ := by rfl
theorem kBlk_n (id : Nat) (K : Exit → St → Prop) (σ : St) : kBlk id K .normal σ = K .normal σ := by rfl
theorem kBlk_r (id : Nat) (K : Exit → St → Prop) (σ : St) : kBlk id K .ret σ = K .ret σ := by rfl
theorem kBlk_e (id i : Nat) (K : Exit → St → Prop) (σ : St) : kBlk id K (.exit i) σ = kBlkB K i σ (i == id) := by
  simp only [kBlk]; cases (i == id) <;> rfl
theorem kLoop_n (L : LI) (i0 i : L.ι) (K : Exit → St → Prop) (σ : St) : kLoop L i0 i K .normal σ = (∃ j, (L.S j).ge σ ∧ L.R i0 j ∧ L.μ j < L.μ i) := by rfl
theorem kLoop_e (L : LI) (i0 i : L.ι) (K : Exit → St → Prop) (x : Nat) (σ : St) : kLoop L i0 i K (.exit x) σ = K (.exit x) σ := by rfl
theorem kLoop_r (L : LI) (i0 i : L.ι) (K : Exit → St → Prop) (σ : St) : kLoop L i0 i K .ret σ = K .ret σ := by rfl
theorem kRet_r (rv : List RV) (r : AV) (st : Bool) (cs : List AV) (σ : St) : kRet rv r st cs .ret σ = retOK rv r st cs σ := by rfl
theorem kRet_n (rv : List RV) (r : AV) (st : Bool) (cs : List AV) (σ : St) : kRet rv r st cs .normal σ = retOK rv r st cs σ := by rfl
theorem retL_nil (σ : St) : retL σ [] = some [] := by rfl
theorem retL_cons (σ : St) (r : RV) (rs : List RV) : retL σ (r :: rs) = consO (retV σ r) (retL σ rs) := by
  simp only [retL]; cases retV σ r <;> cases retL σ rs <;> rfl
theorem retV_t (s : Nat → AV) (m : Nat → Option Blk) (n : Nat) : retV ⟨s, m⟩ (.t n) = some (s n) := by rfl
theorem retV_c (s : Nat → AV) (m : Nat → Option Blk) (p n : Nat) (ag : Bool) : retV ⟨s, m⟩ (.c p n ag) = rvP m n ag (s p) := by
  simp only [retV]; cases s p <;> rfl
theorem initM_f (cs : List AV) : initM false cs = fun _ => none := by rfl
theorem initM_t (cs : List AV) : initM true cs = updM (fun _ => none) 0 (some (.cells cs)) := by rfl
theorem initS_at (xs : List AV) (k : Nat) : initS xs k = xs.getD k .junk := by rfl
theorem lookL_nil (k : Nat) : lookL [] k = .junk := by rfl
theorem lookL_cons (d : Nat) (v : AV) (l : List (Nat × AV)) (k : Nat) : lookL ((d, v) :: l) k = if k = d then v else lookL l k := by rfl
theorem lookM_nil (k : Nat) : lookM [] k = none := by rfl
theorem lookM_cons (d : Nat) (v : Blk) (l : List (Nat × Blk)) (k : Nat) : lookM ((d, v) :: l) k = if k = d then some v else lookM l k := by rfl
theorem SL_st (l : List (Nat × AV)) (b : List (Nat × Blk)) : SL.st ⟨l, b⟩ = ⟨lookL l, lookM b⟩ := by rfl
/-! ### Regions whose order is drawn -/
theorem evC_draw (Φ : Nat → Option Ctr) (I : Nat → LI) (ops : List RO) (σ : St) (K : Exit → St → Prop) : evC Φ I (.region ops true) σ K = evD Φ ops 0 [] (preK ops σ) (kEnd ops K) := by rfl
/-- The head of a drawn region. -/
def evDk (Φ : Nat → Option Ctr) (o : RO) (rest : List RO) (n : Nat) (D : List (Nat × Option Nat × Res)) (σ : St) (K : St → Prop) : Option Res → Prop
  | none => False
  | some r => newOK o.dst r ∧ askL r.pre (pairD D o.after o.dst r (evD Φ rest (n + 1) ((n, o.dst, r) :: D) (σ.put o.dst r) K))
theorem evD_nil (Φ : Nat → Option Ctr) (n : Nat) (D : List (Nat × Option Nat × Res)) (σ : St) (K : St → Prop) : evD Φ [] n D σ K = knowD D (K σ) := by rfl
theorem evD_cons (Φ : Nat → Option Ctr) (o : RO) (rest : List RO) (n : Nat) (D : List (Nat × Option Nat × Res)) (σ : St) (K : St → Prop) : evD Φ (o :: rest) n D σ K = evDk Φ o rest n D σ K (evG Φ o σ) := by
  simp only [evD, evDk]; cases evG Φ o σ <;> rfl
theorem evDk_some (Φ : Nat → Option Ctr) (d : Option Nat) (op : IOp) (g : Option (Nat × Bool)) (af : List Nat) (rest : List RO) (n : Nat) (D : List (Nat × Option Nat × Res)) (σ : St) (K : St → Prop) (pre post : List Prop) (v : AV) (us : List (Nat × Blk)) (nw : Option (Nat × Blk)) (t : List Nat) :
    evDk Φ ⟨d, op, g, af⟩ rest n D σ K (some ⟨pre, post, v, us, nw, t⟩) = (newOK d ⟨pre, post, v, us, nw, t⟩ ∧ askL pre (pairD D af d ⟨pre, post, v, us, nw, t⟩ (evD Φ rest (n + 1) ((n, d, ⟨pre, post, v, us, nw, t⟩) :: D) (σ.put d ⟨pre, post, v, us, nw, t⟩) K))) := by rfl
theorem newOK_none (d : Option Nat) (pre post : List Prop) (v : AV) (us : List (Nat × Blk)) (t : List Nat) : newOK d ⟨pre, post, v, us, none, t⟩ = True := by cases d <;> rfl
theorem newOK_some (d : Nat) (pre post : List Prop) (v : AV) (us : List (Nat × Blk)) (i : Nat) (b : Blk) (t : List Nat) : newOK (some d) ⟨pre, post, v, us, some (i, b), t⟩ = (i = (64 * d + 64) ∧ deadL us = true ∧ liveB (killB i b) = some b) := by rfl
theorem pairD_nil (af : List Nat) (d : Option Nat) (r : Res) (K : Prop) : pairD [] af d r K = K := by rfl
theorem pairD_cons (m : Nat) (d1 : Option Nat) (r1 : Res) (D : List (Nat × Option Nat × Res)) (af : List Nat) (d : Option Nat) (r : Res) (K : Prop) : pairD ((m, d1, r1) :: D) af d r K = (pairOK m d1 r1 af d r ∧ pairD D af d r K) := by rfl
def pairB (d1 : Option Nat) (r1 : Res) (d : Option Nat) (r : Res) : Bool → Prop
  | true => True
  | false => chkR d1 r1 d r = true ∧ newMen d1 r1 r
theorem pairOK_eq (m : Nat) (d1 : Option Nat) (r1 : Res) (af : List Nat) (d : Option Nat) (r : Res) : pairOK m d1 r1 af d r = (newMen d r r1 ∧ pairB d1 r1 d r (af.contains m)) := by
  simp only [pairOK, pairB]; cases af.contains m <;> rfl
theorem pairB_t (d1 : Option Nat) (r1 : Res) (d : Option Nat) (r : Res) : pairB d1 r1 d r true = True := by rfl
theorem pairB_f (d1 : Option Nat) (r1 : Res) (d : Option Nat) (r : Res) : pairB d1 r1 d r false = (chkR d1 r1 d r = true ∧ newMen d1 r1 r) := by rfl
theorem newMen_none (d : Option Nat) (pre post : List Prop) (v : AV) (us : List (Nat × Blk)) (t : List Nat) (r1 : Res) : newMen d ⟨pre, post, v, us, none, t⟩ r1 = True := by cases d <;> rfl
theorem newMen_some (d : Nat) (pre post : List Prop) (v : AV) (us : List (Nat × Blk)) (i : Nat) (b : Blk) (t : List Nat) (r1 : Res) : newMen (some d) ⟨pre, post, v, us, some (i, b), t⟩ r1 = noMen i r1 := by rfl
def noB (b : Nat) : Option (Nat × Blk) → Prop
  | some (_, k) => killB b k = k
  | none => True
theorem noMen_eq (b : Nat) (pre post : List Prop) (v : AV) (us : List (Nat × Blk)) (nw : Option (Nat × Blk)) (t : List Nat) : noMen b ⟨pre, post, v, us, nw, t⟩ = (kill3 b v = v ∧ (us.map fun u => (u.1, killB b u.2)) = us ∧ ((us.map (·.1)).contains b) = false ∧ noB b nw) := by cases nw <;> rfl
theorem noB_none (b : Nat) : noB b none = True := by rfl
theorem noB_some (b i : Nat) (k : Blk) : noB b (some (i, k)) = (killB b k = k) := by rfl
def newI : Option (Nat × Blk) → Option Nat → List Nat
  | some (i, _), some _ => [i]
  | _, _ => []
theorem chkR_eq (d1 : Option Nat) (pre post : List Prop) (v : AV) (us : List (Nat × Blk)) (nw : Option (Nat × Blk)) (t : List Nat) (d : Option Nat) (pre' post' : List Prop) (v' : AV) (us' : List (Nat × Blk)) (nw' : Option (Nat × Blk)) (t' : List Nat) :
    chkR d1 ⟨pre, post, v, us, nw, t⟩ d ⟨pre', post', v', us', nw', t'⟩ = (disjN (pslots v') (optN d1) && disjN (pslots v) (optN d) && disjN (us.map (·.1) ++ newI nw d1) (t' ++ (us'.map (·.1) ++ newI nw' d)) && disjN (us'.map (·.1) ++ newI nw' d) t) := by
  cases nw <;> cases nw' <;> cases d <;> cases d1 <;> rfl
theorem newI_none (d : Option Nat) : newI none d = [] := by cases d <;> rfl
theorem newI_some (i : Nat) (b : Blk) (d : Nat) : newI (some (i, b)) (some d) = [i] := by rfl
theorem optN_none : optN none = [] := by rfl
theorem optN_some (d : Nat) : optN (some d) = [d] := by rfl
theorem disjN_nil (l : List Nat) : disjN [] l = true := by rfl
theorem disjN_cons (x : Nat) (xs l : List Nat) : disjN (x :: xs) l = (!l.contains x && disjN xs l) := by rfl
theorem pslots_gd (p : List (Nat × Bool)) (v : AV) : pslots (.gd p v) = p.map (·.1) := by rfl
theorem pslots_int (k : IntKind) (n : Int) : pslots (.int k n) = [] := by rfl
theorem pslots_bool (b : Bool) : pslots (.bool b) = [] := by rfl
theorem pslots_str (s : List UInt8) : pslots (.str s) = [] := by rfl
theorem pslots_agg (cs : List AV) : pslots (.agg cs) = [] := by rfl
theorem pslots_tup (cs : List AV) : pslots (.tup cs) = [] := by rfl
theorem pslots_lst (z : List AV) (es : List (List AV)) : pslots (.lst z es) = [] := by rfl
theorem pslots_ep (z : List AV) (es : List (List AV)) (i o : Nat) : pslots (.ep z es i o) = [] := by rfl
theorem pslots_ptr (r o : Nat) : pslots (.ptr r o) = [] := by rfl
theorem pslots_fn (f : Nat) : pslots (.fn f) = [] := by rfl
theorem pslots_nil : pslots .nil = [] := by rfl
theorem pslots_junk : pslots .junk = [] := by rfl
theorem knowD_nil (K : Prop) : knowD [] K = K := by rfl
theorem knowD_cons (n : Nat) (d : Option Nat) (pre post : List Prop) (v : AV) (us : List (Nat × Blk)) (nw : Option (Nat × Blk)) (t : List Nat) (D : List (Nat × Option Nat × Res)) (K : Prop) : knowD ((n, d, ⟨pre, post, v, us, nw, t⟩) :: D) K = knowL post (knowD D K) := by rfl
theorem preK_nil (σ : St) : preK [] σ = σ := by rfl
theorem preK_none (op : IOp) (g : Option (Nat × Bool)) (af : List Nat) (l : List RO) (σ : St) : preK (⟨none, op, g, af⟩ :: l) σ = preK l σ := by rfl
def preB (d : Nat) (l : List RO) (σ : St) : Bool → St
  | true => preK l ⟨killS ((64 * d + 64)) σ.s, updM (killM ((64 * d + 64)) σ.m) ((64 * d + 64)) none⟩
  | false => preK l σ
theorem preK_some (d : Nat) (op : IOp) (g : Option (Nat × Bool)) (af : List Nat) (l : List RO) (σ : St) : preK (⟨some d, op, g, af⟩ :: l) σ = preB d l σ (needD op) := by
  simp only [preK, preB]; cases needD op <;> rfl
theorem preB_t (d : Nat) (l : List RO) (s : Nat → AV) (m : Nat → Option Blk) : preB d l ⟨s, m⟩ true = preK l ⟨killS ((64 * d + 64)) s, updM (killM ((64 * d + 64)) m) ((64 * d + 64)) none⟩ := by rfl
theorem preB_f (d : Nat) (l : List RO) (σ : St) : preB d l σ false = preK l σ := by rfl
theorem needD_alloc (z : List AV) : needD (.alloc z) = true := by rfl
theorem needD_box (n : Nat) (x : A) : needD (.box n x) = true := by rfl
theorem killB_cs (r : Nat) (cs : List AV) : killB r (.cells cs) = .cells (cs.map (kill0 r)) := by rfl
theorem needD_mov (x : A) : needD (.mov x) = false := by rfl
theorem needD_pick (c a b : A) : needD (.pick c a b) = false := by rfl
theorem needD_arith (op : BinOp) (x y : A) : needD (.arith op x y) = false := by rfl
theorem needD_cmp (op : BinOp) (ty : Nat) (x y : A) : needD (.cmp op ty x y) = false := by rfl
theorem needD_eqa (neg : Bool) (sh : List Nat) (x y : A) : needD (.eqa neg sh x y) = false := by rfl
theorem needD_not (x : A) : needD (.not x) = false := by rfl
theorem needD_neg (x : A) : needD (.neg x) = false := by rfl
theorem needD_conv (k : IntKind) (x : A) : needD (.conv k x) = false := by rfl
theorem needD_b2s (x : A) : needD (.b2s x) = false := by rfl
theorem needD_len (ty : Nat) (x : A) : needD (.len ty x) = false := by rfl
theorem needD_minmax (mx : Bool) (xs : List A) : needD (.minmax mx xs) = false := by rfl
theorem needD_faddr (off : Nat) (x : A) : needD (.faddr off x) = false := by rfl
theorem needD_fld (off n : Nat) (ag : Bool) (x : A) : needD (.fld off n ag x) = false := by rfl
theorem needD_iaddrS (zero : List AV) (x i : A) : needD (.iaddrS zero x i) = false := by rfl
theorem needD_iaddrA (n sz : Nat) (x i : A) : needD (.iaddrA n sz x i) = false := by rfl
theorem needD_load (n : Nat) (ag : Bool) (x : A) : needD (.load n ag x) = false := by rfl
theorem needD_store (n : Nat) (x v : A) : needD (.store n x v) = false := by rfl
theorem needD_build (zero : List AV) (ps : List (Nat × Nat × A)) : needD (.build zero ps) = false := by rfl
theorem needD_bslice (len : Nat) (zero : List AV) (ps : List (Nat × A)) : needD (.bslice len zero ps) = false := by rfl
theorem needD_extract (i : Nat) (x : A) : needD (.extract i x) = false := by rfl
theorem needD_nilchk (x : A) : needD (.nilchk x) = false := by rfl
theorem needD_call (f : Nat) (xs : List A) : needD (.call f xs) = true := by rfl
theorem needD_append (e bytes : Nat) (z : List AV) (x y : A) : needD (.append e bytes z x y) = true := by rfl
theorem needD_appZ (e bytes : Nat) (z : List AV) (x y : A) : needD (.appZ e bytes z x y) = true := by rfl
theorem needD_slice (sz : Nat) (x : A) (lo hi : Option A) : needD (.slice sz x lo hi) = true := by rfl
theorem needD_mkslice (e bytes : Nat) (zero : List AV) (l c : A) : needD (.mkslice e bytes zero l c) = true := by rfl
theorem needD_mkF (bytes : Nat) (zero : List AV) (l c : A) : needD (.mkF bytes zero l c) = false := by rfl
theorem needD_copy (sz : Nat) (x y : A) : needD (.copy sz x y) = false := by rfl

/-! ### Append -/
def appK (e bytes : Nat) (z : List AV) (i : Nat) (es : List (List AV)) (t : List Nat) : Option (List (List AV) × List Nat) → Option Res
  | some (ys, t') => some ⟨[es.length + ys.length ≤ 9223372036854775807, (es.length + ys.length) * bytes ≤ 140737488355328], [], .vw i 0 0 0, [], some (i, .buf e z (es ++ ys)), t ++ t'⟩
  | none => none
def appV (e bytes : Nat) (z : List AV) (r : Nat) (ys : Option (List (List AV) × List Nat)) : Option Blk → Option Res
  | some (.buf t z' es) => if t = e ∧ z'.length = z.length ∧ 64 ≤ r then appK e bytes z r es [r] ys else none
  | _ => none
def ysL (k : Nat) (z : List AV) (es : List (List AV)) : Option (List (List AV) × List Nat) := if z.length = k then some (es, []) else none
def ysV (k r : Nat) : Option Blk → Option (List (List AV) × List Nat)
  | some (.buf _ z es) => if z.length = k then some (es, [r]) else none
  | _ => none
theorem ev_append (Φ : Nat → Option Ctr) (e bytes : Nat) (z : List AV) (x y : A) (d : Nat) (p : List (Nat × Bool)) (σ : St) : evOp Φ (.append e bytes z x y) d p σ = bind2 (av σ p x) (av σ p y) (appQR σ.m e bytes z d) := by rfl
theorem ev_appZ (Φ : Nat → Option Ctr) (e bytes : Nat) (z : List AV) (x y : A) (d : Nat) (p : List (Nat × Bool)) (σ : St) : evOp Φ (.appZ e bytes z x y) d p σ = bind2 (av σ p x) (av σ p y) (appZR σ.m e bytes z d) := by rfl
def appZK (e bytes : Nat) (z : List AV) (i : Nat) (es : List (List AV)) (t : List Nat) (n : Int) : Option Res := some ⟨[0 ≤ n, es.length + n.toNat ≤ 9223372036854775807, (es.length + n.toNat) * bytes ≤ 140737488355328], [], .vw i 0 0 0, [], some (i, .buf e z (es ++ List.replicate n.toNat z)), t⟩
def appZV (e bytes : Nat) (z : List AV) (r : Nat) (n : Int) : Option Blk → Option Res
  | some (.buf t z' es) => if t = e ∧ z'.length = z.length ∧ 64 ≤ r then appZK e bytes z r es [r] n else none
  | _ => none
theorem appZK_eq (e bytes : Nat) (z : List AV) (i : Nat) (es : List (List AV)) (t : List Nat) (n : Int) : appZK e bytes z i es t n = some ⟨[0 ≤ n, es.length + n.toNat ≤ 9223372036854775807, (es.length + n.toNat) * bytes ≤ 140737488355328], [], .vw i 0 0 0, [], some (i, .buf e z (es ++ List.replicate n.toNat z)), t⟩ := by rfl
theorem appZV_buf (e bytes : Nat) (z : List AV) (r : Nat) (n : Int) (t : Nat) (z' : List AV) (es : List (List AV)) : appZV e bytes z r n (some (.buf t z' es)) = if t = e ∧ z'.length = z.length ∧ 64 ≤ r then appZK e bytes z r es [r] n else none := by rfl
theorem appZR_nil (m : Nat → Option Blk) (e bytes : Nat) (z : List AV) (d : Nat) (k : IntKind) (n : Int) : appZR m e bytes z d .nil (.int k n) = appZK e bytes z (64 * d + 64) [] [] n := by rfl
theorem appZR_vw (m : Nat → Option Blk) (e bytes : Nat) (z : List AV) (d r a b c : Nat) (k : IntKind) (n : Int) : appZR m e bytes z d (.vw r a b c) (.int k n) = appZV e bytes z r n (m r) := by
  simp only [appZR, baseOf]
  cases m r with
  | none => rfl
  | some b => cases b with
    | buf t z' es =>
      by_cases hc : t = e ∧ z'.length = z.length ∧ 64 ≤ r
      · simp only [appZV, appZK, if_pos hc]
      · simp only [appZV, appZK, if_neg hc]
    | _ => rfl
theorem appR_nil (m : Nat → Option Blk) (e bytes : Nat) (z : List AV) (d : Nat) (y : AV) : appR m e bytes z d .nil y = appK e bytes z ((64 * d + 64)) [] [] (ysOf m z.length y) := by
  simp only [appR, baseOf, appK]
  cases ysOf m z.length y with
  | none => rfl
  | some q => obtain ⟨ys, t⟩ := q; rfl
theorem appR_vw (m : Nat → Option Blk) (e bytes : Nat) (z : List AV) (d r a b c : Nat) (y : AV) : appR m e bytes z d (.vw r a b c) y = appV e bytes z r (ysOf m z.length y) (m r) := by
  simp only [appR, baseOf]
  cases hm : m r with
  | none => rfl
  | some blk =>
    cases blk with
    | cells cs => rfl
    | dead => rfl
    | qb => rfl
    | ms => rfl
    | clo => rfl
    | buf t z' es =>
      simp only [appV]
      by_cases hc : t = e ∧ z'.length = z.length ∧ 64 ≤ r
      · rw [if_pos hc, if_pos hc]
        cases ysOf m z.length y with
        | none => rfl
        | some q => obtain ⟨ys, t⟩ := q; rfl
      · rw [if_neg hc, if_neg hc]
theorem appK_some (e bytes : Nat) (z : List AV) (i : Nat) (es : List (List AV)) (t : List Nat) (ys : List (List AV)) (t' : List Nat) : appK e bytes z i es t (some (ys, t')) = some ⟨[es.length + ys.length ≤ 9223372036854775807, (es.length + ys.length) * bytes ≤ 140737488355328], [], .vw i 0 0 0, [], some (i, .buf e z (es ++ ys)), t ++ t'⟩ := by rfl
theorem appV_buf (e bytes : Nat) (z : List AV) (r : Nat) (ys : Option (List (List AV) × List Nat)) (t : Nat) (z' : List AV) (es : List (List AV)) : appV e bytes z r ys (some (.buf t z' es)) = if t = e ∧ z'.length = z.length ∧ 64 ≤ r then appK e bytes z r es [r] ys else none := by rfl
theorem ysOf_nil (m : Nat → Option Blk) (k : Nat) : ysOf m k .nil = some ([], []) := by rfl
theorem ysOf_lst (m : Nat → Option Blk) (k : Nat) (z : List AV) (es : List (List AV)) : ysOf m k (.lst z es) = if z.length = k then some (es, []) else none := by rfl
theorem ysOf_vw (m : Nat → Option Blk) (k r a b c : Nat) : ysOf m k (.vw r a b c) = ysV k r (m r) := by
  simp only [ysOf, ysV]
  cases m r with
  | none => rfl
  | some blk => cases blk <;> rfl
theorem ysV_buf (k r t : Nat) (z : List AV) (es : List (List AV)) : ysV k r (some (.buf t z es)) = if z.length = k then some (es, [r]) else none := by rfl
theorem killB_buf (r t : Nat) (z : List AV) (es : List (List AV)) : killB r (.buf t z es) = .buf t z es := by rfl
theorem pslots_vw (r a b c : Nat) : pslots (.vw r a b c) = [] := by rfl
theorem len_vw (m : Nat → Option Blk) (ty r a b c : Nat) : lenM m ty (.vw r a b c) = lenV ty r (m r) := by rfl
theorem lenV_buf (r t : Nat) (z : List AV) (es : List (List AV)) : lenV 0 r (some (.buf t z es)) = some ⟨[], [es.length ≤ 9223372036854775807], .int .i64 es.length, [], none, [r]⟩ := by rfl
def mgC (c : Bool) (cs : List AV) : Option Blk → Option (List AV)
  | some (.cells cs') => mergeL c cs cs'
  | _ => none
def mgU (r : Nat) : Option (List AV) → Option (List (Nat × Blk))
  | some cs => some [(r, .cells cs)]
  | none => none
def flatC : AV → Bool
  | .int _ _ | .bool _ | .str _ => true
  | _ => false
def setB (r0 : Nat) (cs : List AV) (σ : St) : St := ⟨σ.s, updM σ.m r0 (some (.cells cs))⟩
def putY (d : Nat) (v : AV) (σ : St) : St := ⟨upd σ.s d v, σ.m⟩
def lendQ (r lo hi : Nat) (z : List AV) (es : List (List AV)) : Bool → Option (AV × List Nat)
  | true => some (.lst z ((es.drop lo).take (hi - lo)), [r])
  | false => none
def callD (r : Nat) (bs : List Nat) : Bool → Option (Prop × AV × List AV) → Option Res
  | true, x => callS r bs x
  | false, _ => none
def clQ (q : Prop) (r : AV) (t : List Nat) : Bool → Option Res
  | true => some ⟨[q], [], r, [], none, t⟩
  | false => none
def clU (r : Nat) (q : Prop) (v : AV) (cs : List AV) (bs : List Nat) : Bool → Option Res
  | true => some ⟨[q], [], v, [(r, .cells cs)], none, r :: bs⟩
  | false => none
def frzP (r : Nat) (z : List AV) (es : List (List AV)) (s : Nat → AV) (m : Nat → Option Blk) : Bool → St
  | true => ⟨frzSl r z es s, updM (frzM r z es m) r none⟩
  | false => ⟨s, m⟩
def frzO (r : Nat) (z : List AV) (es : List (List AV)) : Option Blk → Option Blk
  | none => none
  | some b => some (frzB r z es b)
def renO (k R : Nat) : Option Blk → Option Blk
  | none => none
  | some b => some (renB k R (killB R b))
def renP (k R t : Nat) (z : List AV) (es : List (List AV)) (s : Nat → AV) (m : Nat → Option Blk) : Bool → St
  | true => ⟨renSl k R s, updM (updM (renM k R m) k none) R (some (.buf t z es))⟩
  | false => ⟨s, m⟩
def nlP (d R T : Nat) (z : List AV) (s : Nat → AV) (m : Nat → Option Blk) : Bool → St
  | true => ⟨upd (killS R s) d (.vw R 0 0 0), updM (killM R m) R (some (.buf T z []))⟩
  | false => ⟨s, m⟩
def nlR (r i R T : Nat) (z : List AV) (s : Nat → AV) (m : Nat → Option Blk) (cs : List AV) : Bool → St
  | true => ⟨killS R s, updM (updM (killM R m) r (some (.cells ((cs.map (kill0 R)).set i (.vw R 0 0 0))))) R (some (.buf T z []))⟩
  | false => ⟨s, m⟩
def retXG (rv : List RV) (st : Bool) (σ : St) (o : Prop × AV × List AV) : Prop := o.1 ∧ retX rv o.2.1 st o.2.2 σ
def goF (Φ : Nat → Option Ctr) (rest : List RO) (K : St → Prop) (dst : Option Nat) (op : IOp) (g : Option (Nat × Bool)) (af : List Nat) (σ : St) : Prop := goOp Φ rest K σ dst (evG Φ ⟨dst, op, g, af⟩ σ)
def evCl (Φ : Nat → Option Ctr) (d f : Nat) (xs : List A) (af : List Nat) (rest : List RO) (σ : St) (K : St → Prop) : Option Ctr → Prop
  | some (.ext st ι fn) => evXV st ι fn d σ (fun σ' => evOps Φ rest σ' K) (avs σ [] xs)
  | _ => goOp Φ rest K σ (some d) (evG Φ ⟨some d, .call f xs, none, af⟩ σ)
def blO2 (d e : Nat) (z : List AV) : Option (List (List AV)) → Option Res
  | some es => some ⟨[], [], .vw (64 * d + 64) 0 0 0, [], some (64 * d + 64, .buf e z es), []⟩
  | none => none
def iaV (n s : Nat) (ag : Bool) (i : A) : Option AV → Option Res
  | some v => idxVR n s ag v i
  | none => none
def ivR (n : Nat) (j : Int) : Option AV → Option Res
  | some v => some ⟨[0 ≤ j ∧ j < n], [], v, [], none, []⟩
  | none => none
def clV (Φ : Nat → Option Ctr) (m : Nat → Option Blk) (fs : List Nat) (x : Option AV) (ys : Option (List AV)) : Option Res :=
  match x, ys with
  | some (.fn f), some vs => match fs.contains f with
    | true => callR m (Φ f) vs
    | false => none
  | some (.ap r _ _ _), some vs => cloV Φ m fs r vs (m r)
  | _, _ => none
def clW (Φ : Nat → Option Ctr) (m : Nat → Option Blk) (f : Nat) (vs : List AV) : Bool → Option Res
  | true => callR m (Φ f) vs
  | false => none
def shQ (v : AV) : Bool → Option Res
  | true => some ⟨[], [], v, [], none, []⟩
  | false => none
def optS : Option AV → Option (Option AV)
  | some v => some (some v)
  | none => none
def slL (z : List AV) (es : List (List AV)) : Option Int → Option Int → Bool → Option Res
  | some l, some h, true => some ⟨[0 ≤ l ∧ l ≤ h ∧ h ≤ es.length], [], .lst z ((es.drop l.toNat).take (h.toNat - l.toNat)), [], none, []⟩
  | _, _, _ => none
def slN : Option Int → Option Int → Option Res
  | some l, some h => some ⟨[l = 0 ∧ h = 0], [], .nil, [], none, []⟩
  | _, _ => none
def slV (r sz : Nat) (es : List (List AV)) : Option Int → Option Int → Bool → Option Res
  | some l, some h, true => some ⟨[0 ≤ l ∧ l ≤ h ∧ h ≤ es.length], [], .sv r sz l.toNat h.toNat, [], none, [r]⟩
  | _, _, _ => none
def slX (m : Nat → Option Blk) (r sz a b : Nat) (lo hi : Option AV) : Bool → Option Res
  | true => slP r sz a b lo hi (m r)
  | false => none
def slU (r sz a b : Nat) : Option Int → Option Int → Bool → Option Res
  | some l, some h, true => some ⟨[0 ≤ l ∧ l ≤ h ∧ h ≤ ((b - a : Nat) : Int)], [], .sv r sz (a + l.toNat) (a + h.toNat), [], none, [r]⟩
  | _, _, _ => none
def iasW (zero : List AV) (r : Nat) (n : Int) (es : List (List AV)) : Bool → Option Res
  | true => some ⟨[0 ≤ n ∧ n < es.length], [es.length ≤ 9223372036854775807], .bp r zero.length n.toNat 0, [], none, [r]⟩
  | false => none
def iasX (zero : List AV) (r lo hi : Nat) (n : Int) (es : List (List AV)) : Bool → Option Res
  | true => some ⟨[0 ≤ n ∧ n < ((hi - lo : Nat) : Int) ∧ lo ≤ hi ∧ hi ≤ es.length], [], .bp r zero.length (lo + n.toNat) 0, [], none, [r]⟩
  | false => none
def ldP (n : Nat) (ag : Bool) (r s i o : Nat) : Option Blk → Option Res
  | some (.buf _ z es) => match z.length == s, valOf ag n (getE z es i) o with
    | true, some v => some ⟨[i < es.length], [], v, [], none, [r]⟩
    | _, _ => none
  | some (.qb _ z es) => match z.length == s, valOf ag n (getE z es i) o with
    | true, some v => some ⟨[i < es.length], [], v, [], none, [r]⟩
    | _, _ => none
  | _ => none
def ldQ (r i : Nat) (es : List (List AV)) : Bool → Option AV → Option Res
  | true, some v => some ⟨[i < es.length], [], v, [], none, [r]⟩
  | _, _ => none
def stP (n r s i o : Nat) (x : Option (List AV)) (y : Option Blk) : Option Res := match x, y with
  | some vs, some (.buf t z es) => match z.length == s && (vs.all AV.clean0 && decide (o + n ≤ z.length)) with
      | true => some ⟨[i < es.length], [], .junk, [(r, .buf t z (es.set i (setCells (getE z es i) o vs)))], none, [r]⟩
      | false => none
  | _, _ => none
def stQ (r i o : Nat) (vs : List AV) (t : Nat) (z : List AV) (es : List (List AV)) : Bool → Option Res
  | true => some ⟨[i < es.length], [], .junk, [(r, .buf t z (es.set i (setCells (getE z es i) o vs)))], none, [r]⟩
  | false => none
def ysQ (r lo hi : Nat) (es : List (List AV)) : Bool → Option (List (List AV) × List Nat)
  | true => some ((es.drop lo).take (hi - lo), [r])
  | false => none
theorem gv_int (p : List (Nat × Bool)) (k : IntKind) (n : Int) : gv p (AV.int k n) = some (AV.int k n) := by rfl
theorem ungd_int (k : IntKind) (n : Int) : ungd (AV.int k n) = (AV.int k n) := by rfl
theorem kill3_int (q : Nat) (k : IntKind) (n : Int) : kill3 q (AV.int k n) = (AV.int k n) := by rfl
theorem kill1_int (q : Nat) (k : IntKind) (n : Int) : kill1 q (AV.int k n) = (AV.int k n) := by rfl
theorem kill0_int (q : Nat) (k : IntKind) (n : Int) : kill0 q (AV.int k n) = (AV.int k n) := by rfl
theorem frz3_int (q : Nat) (zz : List AV) (ee : List (List AV)) (k : IntKind) (n : Int) : frz3 q zz ee (AV.int k n) = (AV.int k n) := by rfl
theorem frz1_int (q : Nat) (zz : List AV) (ee : List (List AV)) (k : IntKind) (n : Int) : frz1 q zz ee (AV.int k n) = (AV.int k n) := by rfl
theorem frz0_int (q : Nat) (zz : List AV) (ee : List (List AV)) (k : IntKind) (n : Int) : frz0 q zz ee (AV.int k n) = (AV.int k n) := by rfl
theorem ren3_int (q R : Nat) (k : IntKind) (n : Int) : ren3 q R (AV.int k n) = (AV.int k n) := by rfl
theorem ren1_int (q R : Nat) (k : IntKind) (n : Int) : ren1 q R (AV.int k n) = (AV.int k n) := by rfl
theorem ren0_int (q R : Nat) (k : IntKind) (n : Int) : ren0 q R (AV.int k n) = (AV.int k n) := by rfl
theorem leA_int (k : IntKind) (n : Int) (y : AV) : leA (AV.int k n) y = ((AV.int k n) = y) := by rfl
theorem leV1_int (k : IntKind) (n : Int) (y : AV) : leV1 (AV.int k n) y = ((AV.int k n) = y) := by rfl
theorem gv_bool (p : List (Nat × Bool)) (b : Bool) : gv p (AV.bool b) = some (AV.bool b) := by rfl
theorem ungd_bool (b : Bool) : ungd (AV.bool b) = (AV.bool b) := by rfl
theorem kill3_bool (q : Nat) (b : Bool) : kill3 q (AV.bool b) = (AV.bool b) := by rfl
theorem kill1_bool (q : Nat) (b : Bool) : kill1 q (AV.bool b) = (AV.bool b) := by rfl
theorem kill0_bool (q : Nat) (b : Bool) : kill0 q (AV.bool b) = (AV.bool b) := by rfl
theorem frz3_bool (q : Nat) (zz : List AV) (ee : List (List AV)) (b : Bool) : frz3 q zz ee (AV.bool b) = (AV.bool b) := by rfl
theorem frz1_bool (q : Nat) (zz : List AV) (ee : List (List AV)) (b : Bool) : frz1 q zz ee (AV.bool b) = (AV.bool b) := by rfl
theorem frz0_bool (q : Nat) (zz : List AV) (ee : List (List AV)) (b : Bool) : frz0 q zz ee (AV.bool b) = (AV.bool b) := by rfl
theorem ren3_bool (q R : Nat) (b : Bool) : ren3 q R (AV.bool b) = (AV.bool b) := by rfl
theorem ren1_bool (q R : Nat) (b : Bool) : ren1 q R (AV.bool b) = (AV.bool b) := by rfl
theorem ren0_bool (q R : Nat) (b : Bool) : ren0 q R (AV.bool b) = (AV.bool b) := by rfl
theorem leA_bool (b : Bool) (y : AV) : leA (AV.bool b) y = ((AV.bool b) = y) := by rfl
theorem leV1_bool (b : Bool) (y : AV) : leV1 (AV.bool b) y = ((AV.bool b) = y) := by rfl
theorem gv_str (p : List (Nat × Bool)) (s : List UInt8) : gv p (AV.str s) = some (AV.str s) := by rfl
theorem ungd_str (s : List UInt8) : ungd (AV.str s) = (AV.str s) := by rfl
theorem kill3_str (q : Nat) (s : List UInt8) : kill3 q (AV.str s) = (AV.str s) := by rfl
theorem kill1_str (q : Nat) (s : List UInt8) : kill1 q (AV.str s) = (AV.str s) := by rfl
theorem kill0_str (q : Nat) (s : List UInt8) : kill0 q (AV.str s) = (AV.str s) := by rfl
theorem frz3_str (q : Nat) (zz : List AV) (ee : List (List AV)) (s : List UInt8) : frz3 q zz ee (AV.str s) = (AV.str s) := by rfl
theorem frz1_str (q : Nat) (zz : List AV) (ee : List (List AV)) (s : List UInt8) : frz1 q zz ee (AV.str s) = (AV.str s) := by rfl
theorem frz0_str (q : Nat) (zz : List AV) (ee : List (List AV)) (s : List UInt8) : frz0 q zz ee (AV.str s) = (AV.str s) := by rfl
theorem ren3_str (q R : Nat) (s : List UInt8) : ren3 q R (AV.str s) = (AV.str s) := by rfl
theorem ren1_str (q R : Nat) (s : List UInt8) : ren1 q R (AV.str s) = (AV.str s) := by rfl
theorem ren0_str (q R : Nat) (s : List UInt8) : ren0 q R (AV.str s) = (AV.str s) := by rfl
theorem leA_str (s : List UInt8) (y : AV) : leA (AV.str s) y = ((AV.str s) = y) := by rfl
theorem leV1_str (s : List UInt8) (y : AV) : leV1 (AV.str s) y = ((AV.str s) = y) := by rfl
theorem gv_agg (p : List (Nat × Bool)) (cs : List AV) : gv p (AV.agg cs) = some (AV.agg cs) := by rfl
theorem ungd_agg (cs : List AV) : ungd (AV.agg cs) = (AV.agg cs) := by rfl
theorem kill3_agg (q : Nat) (cs : List AV) : kill3 q (AV.agg cs) = .agg (cs.map (kill0 q)) := by rfl
theorem kill1_agg (q : Nat) (cs : List AV) : kill1 q (AV.agg cs) = .agg (cs.map (kill0 q)) := by rfl
theorem frz3_agg (q : Nat) (zz : List AV) (ee : List (List AV)) (cs : List AV) : frz3 q zz ee (AV.agg cs) = .agg (cs.map (frz0 q zz ee)) := by rfl
theorem frz1_agg (q : Nat) (zz : List AV) (ee : List (List AV)) (cs : List AV) : frz1 q zz ee (AV.agg cs) = .agg (cs.map (frz0 q zz ee)) := by rfl
theorem ren3_agg (q R : Nat) (cs : List AV) : ren3 q R (AV.agg cs) = .agg (cs.map (ren0 q R)) := by rfl
theorem ren1_agg (q R : Nat) (cs : List AV) : ren1 q R (AV.agg cs) = .agg (cs.map (ren0 q R)) := by rfl
theorem leA_agg (cs : List AV) (y : AV) : leA (AV.agg cs) y = ((AV.agg cs) = y) := by rfl
theorem gv_tup (p : List (Nat × Bool)) (vs : List AV) : gv p (AV.tup vs) = some (AV.tup vs) := by rfl
theorem ungd_tup (vs : List AV) : ungd (AV.tup vs) = (AV.tup vs) := by rfl
theorem kill3_tup (q : Nat) (vs : List AV) : kill3 q (AV.tup vs) = .tup (vs.map (kill1 q)) := by rfl
theorem frz3_tup (q : Nat) (zz : List AV) (ee : List (List AV)) (vs : List AV) : frz3 q zz ee (AV.tup vs) = .tup (vs.map (frz1 q zz ee)) := by rfl
theorem ren3_tup (q R : Nat) (vs : List AV) : ren3 q R (AV.tup vs) = .tup (vs.map (ren1 q R)) := by rfl
theorem leA_tup (vs : List AV) (y : AV) : leA (AV.tup vs) y = ((AV.tup vs) = y) := by rfl
theorem leV1_tup (vs : List AV) (y : AV) : leV1 (AV.tup vs) y = ((AV.tup vs) = y) := by rfl
theorem gv_lst (p : List (Nat × Bool)) (z : List AV) (es : List (List AV)) : gv p (AV.lst z es) = some (AV.lst z es) := by rfl
theorem ungd_lst (z : List AV) (es : List (List AV)) : ungd (AV.lst z es) = (AV.lst z es) := by rfl
theorem kill3_lst (q : Nat) (z : List AV) (es : List (List AV)) : kill3 q (AV.lst z es) = (AV.lst z es) := by rfl
theorem kill1_lst (q : Nat) (z : List AV) (es : List (List AV)) : kill1 q (AV.lst z es) = (AV.lst z es) := by rfl
theorem kill0_lst (q : Nat) (z : List AV) (es : List (List AV)) : kill0 q (AV.lst z es) = (AV.lst z es) := by rfl
theorem frz3_lst (q : Nat) (zz : List AV) (ee : List (List AV)) (z : List AV) (es : List (List AV)) : frz3 q zz ee (AV.lst z es) = (AV.lst z es) := by rfl
theorem frz1_lst (q : Nat) (zz : List AV) (ee : List (List AV)) (z : List AV) (es : List (List AV)) : frz1 q zz ee (AV.lst z es) = (AV.lst z es) := by rfl
theorem frz0_lst (q : Nat) (zz : List AV) (ee : List (List AV)) (z : List AV) (es : List (List AV)) : frz0 q zz ee (AV.lst z es) = (AV.lst z es) := by rfl
theorem ren3_lst (q R : Nat) (z : List AV) (es : List (List AV)) : ren3 q R (AV.lst z es) = (AV.lst z es) := by rfl
theorem ren1_lst (q R : Nat) (z : List AV) (es : List (List AV)) : ren1 q R (AV.lst z es) = (AV.lst z es) := by rfl
theorem ren0_lst (q R : Nat) (z : List AV) (es : List (List AV)) : ren0 q R (AV.lst z es) = (AV.lst z es) := by rfl
theorem leA_lst (z : List AV) (es : List (List AV)) (y : AV) : leA (AV.lst z es) y = ((AV.lst z es) = y) := by rfl
theorem leV1_lst (z : List AV) (es : List (List AV)) (y : AV) : leV1 (AV.lst z es) y = ((AV.lst z es) = y) := by rfl
theorem gv_ep (p : List (Nat × Bool)) (z : List AV) (es : List (List AV)) (i o : Nat) : gv p (AV.ep z es i o) = some (AV.ep z es i o) := by rfl
theorem ungd_ep (z : List AV) (es : List (List AV)) (i o : Nat) : ungd (AV.ep z es i o) = (AV.ep z es i o) := by rfl
theorem kill3_ep (q : Nat) (z : List AV) (es : List (List AV)) (i o : Nat) : kill3 q (AV.ep z es i o) = (AV.ep z es i o) := by rfl
theorem kill1_ep (q : Nat) (z : List AV) (es : List (List AV)) (i o : Nat) : kill1 q (AV.ep z es i o) = (AV.ep z es i o) := by rfl
theorem kill0_ep (q : Nat) (z : List AV) (es : List (List AV)) (i o : Nat) : kill0 q (AV.ep z es i o) = (AV.ep z es i o) := by rfl
theorem frz3_ep (q : Nat) (zz : List AV) (ee : List (List AV)) (z : List AV) (es : List (List AV)) (i o : Nat) : frz3 q zz ee (AV.ep z es i o) = (AV.ep z es i o) := by rfl
theorem frz1_ep (q : Nat) (zz : List AV) (ee : List (List AV)) (z : List AV) (es : List (List AV)) (i o : Nat) : frz1 q zz ee (AV.ep z es i o) = (AV.ep z es i o) := by rfl
theorem frz0_ep (q : Nat) (zz : List AV) (ee : List (List AV)) (z : List AV) (es : List (List AV)) (i o : Nat) : frz0 q zz ee (AV.ep z es i o) = (AV.ep z es i o) := by rfl
theorem ren3_ep (q R : Nat) (z : List AV) (es : List (List AV)) (i o : Nat) : ren3 q R (AV.ep z es i o) = (AV.ep z es i o) := by rfl
theorem ren1_ep (q R : Nat) (z : List AV) (es : List (List AV)) (i o : Nat) : ren1 q R (AV.ep z es i o) = (AV.ep z es i o) := by rfl
theorem ren0_ep (q R : Nat) (z : List AV) (es : List (List AV)) (i o : Nat) : ren0 q R (AV.ep z es i o) = (AV.ep z es i o) := by rfl
theorem leA_ep (z : List AV) (es : List (List AV)) (i o : Nat) (y : AV) : leA (AV.ep z es i o) y = ((AV.ep z es i o) = y) := by rfl
theorem leV1_ep (z : List AV) (es : List (List AV)) (i o : Nat) (y : AV) : leV1 (AV.ep z es i o) y = ((AV.ep z es i o) = y) := by rfl
theorem gv_ptr (p : List (Nat × Bool)) (r o : Nat) : gv p (AV.ptr r o) = some (AV.ptr r o) := by rfl
theorem ungd_ptr (r o : Nat) : ungd (AV.ptr r o) = (AV.ptr r o) := by rfl
theorem kill3_ptr (q : Nat) (r o : Nat) : kill3 q (AV.ptr r o) = if r = q then .junk else (AV.ptr r o) := by rfl
theorem kill1_ptr (q : Nat) (r o : Nat) : kill1 q (AV.ptr r o) = if r = q then .junk else (AV.ptr r o) := by rfl
theorem kill0_ptr (q : Nat) (r o : Nat) : kill0 q (AV.ptr r o) = if r = q then .junk else (AV.ptr r o) := by rfl
theorem frz3_ptr (q : Nat) (zz : List AV) (ee : List (List AV)) (r o : Nat) : frz3 q zz ee (AV.ptr r o) = (AV.ptr r o) := by rfl
theorem frz1_ptr (q : Nat) (zz : List AV) (ee : List (List AV)) (r o : Nat) : frz1 q zz ee (AV.ptr r o) = (AV.ptr r o) := by rfl
theorem frz0_ptr (q : Nat) (zz : List AV) (ee : List (List AV)) (r o : Nat) : frz0 q zz ee (AV.ptr r o) = (AV.ptr r o) := by rfl
theorem ren3_ptr (q R : Nat) (r o : Nat) : ren3 q R (AV.ptr r o) = (AV.ptr r o) := by rfl
theorem ren1_ptr (q R : Nat) (r o : Nat) : ren1 q R (AV.ptr r o) = (AV.ptr r o) := by rfl
theorem ren0_ptr (q R : Nat) (r o : Nat) : ren0 q R (AV.ptr r o) = (AV.ptr r o) := by rfl
theorem leA_ptr (r o : Nat) (y : AV) : leA (AV.ptr r o) y = ((AV.ptr r o) = y) := by rfl
theorem leV1_ptr (r o : Nat) (y : AV) : leV1 (AV.ptr r o) y = ((AV.ptr r o) = y) := by rfl
theorem gv_ap (p : List (Nat × Bool)) (r o n i : Nat) : gv p (AV.ap r o n i) = some (AV.ap r o n i) := by rfl
theorem ungd_ap (r o n i : Nat) : ungd (AV.ap r o n i) = (AV.ap r o n i) := by rfl
theorem kill3_ap (q : Nat) (r o n i : Nat) : kill3 q (AV.ap r o n i) = if r = q then .junk else (AV.ap r o n i) := by rfl
theorem kill1_ap (q : Nat) (r o n i : Nat) : kill1 q (AV.ap r o n i) = if r = q then .junk else (AV.ap r o n i) := by rfl
theorem kill0_ap (q : Nat) (r o n i : Nat) : kill0 q (AV.ap r o n i) = if r = q then .junk else (AV.ap r o n i) := by rfl
theorem frz3_ap (q : Nat) (zz : List AV) (ee : List (List AV)) (r o n i : Nat) : frz3 q zz ee (AV.ap r o n i) = (AV.ap r o n i) := by rfl
theorem frz1_ap (q : Nat) (zz : List AV) (ee : List (List AV)) (r o n i : Nat) : frz1 q zz ee (AV.ap r o n i) = (AV.ap r o n i) := by rfl
theorem frz0_ap (q : Nat) (zz : List AV) (ee : List (List AV)) (r o n i : Nat) : frz0 q zz ee (AV.ap r o n i) = (AV.ap r o n i) := by rfl
theorem ren3_ap (q R : Nat) (r o n i : Nat) : ren3 q R (AV.ap r o n i) = (AV.ap r o n i) := by rfl
theorem ren1_ap (q R : Nat) (r o n i : Nat) : ren1 q R (AV.ap r o n i) = (AV.ap r o n i) := by rfl
theorem ren0_ap (q R : Nat) (r o n i : Nat) : ren0 q R (AV.ap r o n i) = (AV.ap r o n i) := by rfl
theorem leA_ap (r o n i : Nat) (y : AV) : leA (AV.ap r o n i) y = ((AV.ap r o n i) = y) := by rfl
theorem leV1_ap (r o n i : Nat) (y : AV) : leV1 (AV.ap r o n i) y = ((AV.ap r o n i) = y) := by rfl
theorem gv_vw (p : List (Nat × Bool)) (r a b c : Nat) : gv p (AV.vw r a b c) = some (AV.vw r a b c) := by rfl
theorem ungd_vw (r a b c : Nat) : ungd (AV.vw r a b c) = (AV.vw r a b c) := by rfl
theorem kill3_vw (q : Nat) (r a b c : Nat) : kill3 q (AV.vw r a b c) = if r = q then .junk else (AV.vw r a b c) := by rfl
theorem kill1_vw (q : Nat) (r a b c : Nat) : kill1 q (AV.vw r a b c) = if r = q then .junk else (AV.vw r a b c) := by rfl
theorem kill0_vw (q : Nat) (r a b c : Nat) : kill0 q (AV.vw r a b c) = if r = q then .junk else (AV.vw r a b c) := by rfl
theorem frz3_vw (q : Nat) (zz : List AV) (ee : List (List AV)) (r a b c : Nat) : frz3 q zz ee (AV.vw r a b c) = if r = q then .lst zz ee else (AV.vw r a b c) := by rfl
theorem frz1_vw (q : Nat) (zz : List AV) (ee : List (List AV)) (r a b c : Nat) : frz1 q zz ee (AV.vw r a b c) = if r = q then .lst zz ee else (AV.vw r a b c) := by rfl
theorem frz0_vw (q : Nat) (zz : List AV) (ee : List (List AV)) (r a b c : Nat) : frz0 q zz ee (AV.vw r a b c) = if r = q then .lst zz ee else (AV.vw r a b c) := by rfl
theorem ren3_vw (q R : Nat) (r a b c : Nat) : ren3 q R (AV.vw r a b c) = if r = q then .vw R a b c else (AV.vw r a b c) := by rfl
theorem ren1_vw (q R : Nat) (r a b c : Nat) : ren1 q R (AV.vw r a b c) = if r = q then .vw R a b c else (AV.vw r a b c) := by rfl
theorem ren0_vw (q R : Nat) (r a b c : Nat) : ren0 q R (AV.vw r a b c) = if r = q then .vw R a b c else (AV.vw r a b c) := by rfl
theorem leA_vw (r a b c : Nat) (y : AV) : leA (AV.vw r a b c) y = ((AV.vw r a b c) = y) := by rfl
theorem leV1_vw (r a b c : Nat) (y : AV) : leV1 (AV.vw r a b c) y = ((AV.vw r a b c) = y) := by rfl
theorem gv_sv (p : List (Nat × Bool)) (r a b c : Nat) : gv p (AV.sv r a b c) = some (AV.sv r a b c) := by rfl
theorem ungd_sv (r a b c : Nat) : ungd (AV.sv r a b c) = (AV.sv r a b c) := by rfl
theorem kill3_sv (q : Nat) (r a b c : Nat) : kill3 q (AV.sv r a b c) = if r = q then .junk else (AV.sv r a b c) := by rfl
theorem kill1_sv (q : Nat) (r a b c : Nat) : kill1 q (AV.sv r a b c) = if r = q then .junk else (AV.sv r a b c) := by rfl
theorem kill0_sv (q : Nat) (r a b c : Nat) : kill0 q (AV.sv r a b c) = if r = q then .junk else (AV.sv r a b c) := by rfl
theorem frz3_sv (q : Nat) (zz : List AV) (ee : List (List AV)) (r a b c : Nat) : frz3 q zz ee (AV.sv r a b c) = if r = q then (if a = zz.length then .lst zz ((ee.drop b).take (c - b)) else .junk) else (AV.sv r a b c) := by rfl
theorem frz1_sv (q : Nat) (zz : List AV) (ee : List (List AV)) (r a b c : Nat) : frz1 q zz ee (AV.sv r a b c) = if r = q then (if a = zz.length then .lst zz ((ee.drop b).take (c - b)) else .junk) else (AV.sv r a b c) := by rfl
theorem frz0_sv (q : Nat) (zz : List AV) (ee : List (List AV)) (r a b c : Nat) : frz0 q zz ee (AV.sv r a b c) = if r = q then (if a = zz.length then .lst zz ((ee.drop b).take (c - b)) else .junk) else (AV.sv r a b c) := by rfl
theorem ren3_sv (q R : Nat) (r a b c : Nat) : ren3 q R (AV.sv r a b c) = (AV.sv r a b c) := by rfl
theorem ren1_sv (q R : Nat) (r a b c : Nat) : ren1 q R (AV.sv r a b c) = (AV.sv r a b c) := by rfl
theorem ren0_sv (q R : Nat) (r a b c : Nat) : ren0 q R (AV.sv r a b c) = (AV.sv r a b c) := by rfl
theorem leA_sv (r a b c : Nat) (y : AV) : leA (AV.sv r a b c) y = ((AV.sv r a b c) = y) := by rfl
theorem leV1_sv (r a b c : Nat) (y : AV) : leV1 (AV.sv r a b c) y = ((AV.sv r a b c) = y) := by rfl
theorem gv_bp (p : List (Nat × Bool)) (r a i o : Nat) : gv p (AV.bp r a i o) = some (AV.bp r a i o) := by rfl
theorem ungd_bp (r a i o : Nat) : ungd (AV.bp r a i o) = (AV.bp r a i o) := by rfl
theorem kill3_bp (q : Nat) (r a i o : Nat) : kill3 q (AV.bp r a i o) = if r = q then .junk else (AV.bp r a i o) := by rfl
theorem kill1_bp (q : Nat) (r a i o : Nat) : kill1 q (AV.bp r a i o) = if r = q then .junk else (AV.bp r a i o) := by rfl
theorem kill0_bp (q : Nat) (r a i o : Nat) : kill0 q (AV.bp r a i o) = if r = q then .junk else (AV.bp r a i o) := by rfl
theorem frz3_bp (q : Nat) (zz : List AV) (ee : List (List AV)) (r a i o : Nat) : frz3 q zz ee (AV.bp r a i o) = (AV.bp r a i o) := by rfl
theorem frz1_bp (q : Nat) (zz : List AV) (ee : List (List AV)) (r a i o : Nat) : frz1 q zz ee (AV.bp r a i o) = (AV.bp r a i o) := by rfl
theorem frz0_bp (q : Nat) (zz : List AV) (ee : List (List AV)) (r a i o : Nat) : frz0 q zz ee (AV.bp r a i o) = (AV.bp r a i o) := by rfl
theorem ren3_bp (q R : Nat) (r a i o : Nat) : ren3 q R (AV.bp r a i o) = (AV.bp r a i o) := by rfl
theorem ren1_bp (q R : Nat) (r a i o : Nat) : ren1 q R (AV.bp r a i o) = (AV.bp r a i o) := by rfl
theorem ren0_bp (q R : Nat) (r a i o : Nat) : ren0 q R (AV.bp r a i o) = (AV.bp r a i o) := by rfl
theorem leA_bp (r a i o : Nat) (y : AV) : leA (AV.bp r a i o) y = ((AV.bp r a i o) = y) := by rfl
theorem leV1_bp (r a i o : Nat) (y : AV) : leV1 (AV.bp r a i o) y = ((AV.bp r a i o) = y) := by rfl
theorem gv_fr (p : List (Nat × Bool)) (i t : Nat) (z : List AV) (es : List (List AV)) : gv p (AV.fr i t z es) = some (AV.fr i t z es) := by rfl
theorem ungd_fr (i t : Nat) (z : List AV) (es : List (List AV)) : ungd (AV.fr i t z es) = (AV.fr i t z es) := by rfl
theorem kill3_fr (q : Nat) (i t : Nat) (z : List AV) (es : List (List AV)) : kill3 q (AV.fr i t z es) = (AV.fr i t z es) := by rfl
theorem kill1_fr (q : Nat) (i t : Nat) (z : List AV) (es : List (List AV)) : kill1 q (AV.fr i t z es) = (AV.fr i t z es) := by rfl
theorem kill0_fr (q : Nat) (i t : Nat) (z : List AV) (es : List (List AV)) : kill0 q (AV.fr i t z es) = (AV.fr i t z es) := by rfl
theorem frz3_fr (q : Nat) (zz : List AV) (ee : List (List AV)) (i t : Nat) (z : List AV) (es : List (List AV)) : frz3 q zz ee (AV.fr i t z es) = (AV.fr i t z es) := by rfl
theorem frz1_fr (q : Nat) (zz : List AV) (ee : List (List AV)) (i t : Nat) (z : List AV) (es : List (List AV)) : frz1 q zz ee (AV.fr i t z es) = (AV.fr i t z es) := by rfl
theorem frz0_fr (q : Nat) (zz : List AV) (ee : List (List AV)) (i t : Nat) (z : List AV) (es : List (List AV)) : frz0 q zz ee (AV.fr i t z es) = (AV.fr i t z es) := by rfl
theorem ren3_fr (q R : Nat) (i t : Nat) (z : List AV) (es : List (List AV)) : ren3 q R (AV.fr i t z es) = (AV.fr i t z es) := by rfl
theorem ren1_fr (q R : Nat) (i t : Nat) (z : List AV) (es : List (List AV)) : ren1 q R (AV.fr i t z es) = (AV.fr i t z es) := by rfl
theorem ren0_fr (q R : Nat) (i t : Nat) (z : List AV) (es : List (List AV)) : ren0 q R (AV.fr i t z es) = (AV.fr i t z es) := by rfl
theorem leA_fr (i t : Nat) (z : List AV) (es : List (List AV)) (y : AV) : leA (AV.fr i t z es) y = ((AV.fr i t z es) = y) := by rfl
theorem leV1_fr (i t : Nat) (z : List AV) (es : List (List AV)) (y : AV) : leV1 (AV.fr i t z es) y = ((AV.fr i t z es) = y) := by rfl
theorem gv_fp (p : List (Nat × Bool)) (i : Nat) (cs : List AV) : gv p (AV.fp i cs) = some (AV.fp i cs) := by rfl
theorem ungd_fp (i : Nat) (cs : List AV) : ungd (AV.fp i cs) = (AV.fp i cs) := by rfl
theorem kill3_fp (q : Nat) (i : Nat) (cs : List AV) : kill3 q (AV.fp i cs) = (AV.fp i cs) := by rfl
theorem kill1_fp (q : Nat) (i : Nat) (cs : List AV) : kill1 q (AV.fp i cs) = (AV.fp i cs) := by rfl
theorem kill0_fp (q : Nat) (i : Nat) (cs : List AV) : kill0 q (AV.fp i cs) = (AV.fp i cs) := by rfl
theorem frz3_fp (q : Nat) (zz : List AV) (ee : List (List AV)) (i : Nat) (cs : List AV) : frz3 q zz ee (AV.fp i cs) = (AV.fp i cs) := by rfl
theorem frz1_fp (q : Nat) (zz : List AV) (ee : List (List AV)) (i : Nat) (cs : List AV) : frz1 q zz ee (AV.fp i cs) = (AV.fp i cs) := by rfl
theorem frz0_fp (q : Nat) (zz : List AV) (ee : List (List AV)) (i : Nat) (cs : List AV) : frz0 q zz ee (AV.fp i cs) = (AV.fp i cs) := by rfl
theorem ren3_fp (q R : Nat) (i : Nat) (cs : List AV) : ren3 q R (AV.fp i cs) = (AV.fp i cs) := by rfl
theorem ren1_fp (q R : Nat) (i : Nat) (cs : List AV) : ren1 q R (AV.fp i cs) = (AV.fp i cs) := by rfl
theorem ren0_fp (q R : Nat) (i : Nat) (cs : List AV) : ren0 q R (AV.fp i cs) = (AV.fp i cs) := by rfl
theorem leA_fp (i : Nat) (cs : List AV) (y : AV) : leA (AV.fp i cs) y = ((AV.fp i cs) = y) := by rfl
theorem leV1_fp (i : Nat) (cs : List AV) (y : AV) : leV1 (AV.fp i cs) y = ((AV.fp i cs) = y) := by rfl
theorem gv_nb (p : List (Nat × Bool)) (e : Bool) : gv p (AV.nb e) = some (AV.nb e) := by rfl
theorem ungd_nb (e : Bool) : ungd (AV.nb e) = (AV.nb e) := by rfl
theorem kill3_nb (q : Nat) (e : Bool) : kill3 q (AV.nb e) = (AV.nb e) := by rfl
theorem kill1_nb (q : Nat) (e : Bool) : kill1 q (AV.nb e) = (AV.nb e) := by rfl
theorem kill0_nb (q : Nat) (e : Bool) : kill0 q (AV.nb e) = (AV.nb e) := by rfl
theorem frz3_nb (q : Nat) (zz : List AV) (ee : List (List AV)) (e : Bool) : frz3 q zz ee (AV.nb e) = (AV.nb e) := by rfl
theorem frz1_nb (q : Nat) (zz : List AV) (ee : List (List AV)) (e : Bool) : frz1 q zz ee (AV.nb e) = (AV.nb e) := by rfl
theorem frz0_nb (q : Nat) (zz : List AV) (ee : List (List AV)) (e : Bool) : frz0 q zz ee (AV.nb e) = (AV.nb e) := by rfl
theorem ren3_nb (q R : Nat) (e : Bool) : ren3 q R (AV.nb e) = (AV.nb e) := by rfl
theorem ren1_nb (q R : Nat) (e : Bool) : ren1 q R (AV.nb e) = (AV.nb e) := by rfl
theorem ren0_nb (q R : Nat) (e : Bool) : ren0 q R (AV.nb e) = (AV.nb e) := by rfl
theorem leA_nb (e : Bool) (y : AV) : leA (AV.nb e) y = ((AV.nb e) = y) := by rfl
theorem leV1_nb (e : Bool) (y : AV) : leV1 (AV.nb e) y = ((AV.nb e) = y) := by rfl
theorem gv_fn (p : List (Nat × Bool)) (f : Nat) : gv p (AV.fn f) = some (AV.fn f) := by rfl
theorem ungd_fn (f : Nat) : ungd (AV.fn f) = (AV.fn f) := by rfl
theorem kill3_fn (q : Nat) (f : Nat) : kill3 q (AV.fn f) = (AV.fn f) := by rfl
theorem kill1_fn (q : Nat) (f : Nat) : kill1 q (AV.fn f) = (AV.fn f) := by rfl
theorem kill0_fn (q : Nat) (f : Nat) : kill0 q (AV.fn f) = (AV.fn f) := by rfl
theorem frz3_fn (q : Nat) (zz : List AV) (ee : List (List AV)) (f : Nat) : frz3 q zz ee (AV.fn f) = (AV.fn f) := by rfl
theorem frz1_fn (q : Nat) (zz : List AV) (ee : List (List AV)) (f : Nat) : frz1 q zz ee (AV.fn f) = (AV.fn f) := by rfl
theorem frz0_fn (q : Nat) (zz : List AV) (ee : List (List AV)) (f : Nat) : frz0 q zz ee (AV.fn f) = (AV.fn f) := by rfl
theorem ren3_fn (q R : Nat) (f : Nat) : ren3 q R (AV.fn f) = (AV.fn f) := by rfl
theorem ren1_fn (q R : Nat) (f : Nat) : ren1 q R (AV.fn f) = (AV.fn f) := by rfl
theorem ren0_fn (q R : Nat) (f : Nat) : ren0 q R (AV.fn f) = (AV.fn f) := by rfl
theorem leA_fn (f : Nat) (y : AV) : leA (AV.fn f) y = ((AV.fn f) = y) := by rfl
theorem leV1_fn (f : Nat) (y : AV) : leV1 (AV.fn f) y = ((AV.fn f) = y) := by rfl
theorem gv_nil (p : List (Nat × Bool))  : gv p AV.nil = some AV.nil := by rfl
theorem ungd_nil  : ungd AV.nil = AV.nil := by rfl
theorem kill3_nil (q : Nat)  : kill3 q AV.nil = AV.nil := by rfl
theorem kill1_nil (q : Nat)  : kill1 q AV.nil = AV.nil := by rfl
theorem kill0_nil (q : Nat)  : kill0 q AV.nil = AV.nil := by rfl
theorem frz3_nil (q : Nat) (zz : List AV) (ee : List (List AV))  : frz3 q zz ee AV.nil = AV.nil := by rfl
theorem frz1_nil (q : Nat) (zz : List AV) (ee : List (List AV))  : frz1 q zz ee AV.nil = AV.nil := by rfl
theorem frz0_nil (q : Nat) (zz : List AV) (ee : List (List AV))  : frz0 q zz ee AV.nil = AV.nil := by rfl
theorem ren3_nil (q R : Nat)  : ren3 q R AV.nil = AV.nil := by rfl
theorem ren1_nil (q R : Nat)  : ren1 q R AV.nil = AV.nil := by rfl
theorem ren0_nil (q R : Nat)  : ren0 q R AV.nil = AV.nil := by rfl
theorem gv_junk (p : List (Nat × Bool))  : gv p AV.junk = some AV.junk := by rfl
theorem ungd_junk  : ungd AV.junk = AV.junk := by rfl
theorem kill3_junk (q : Nat)  : kill3 q AV.junk = AV.junk := by rfl
theorem kill1_junk (q : Nat)  : kill1 q AV.junk = AV.junk := by rfl
theorem kill0_junk (q : Nat)  : kill0 q AV.junk = AV.junk := by rfl
theorem frz3_junk (q : Nat) (zz : List AV) (ee : List (List AV))  : frz3 q zz ee AV.junk = AV.junk := by rfl
theorem frz1_junk (q : Nat) (zz : List AV) (ee : List (List AV))  : frz1 q zz ee AV.junk = AV.junk := by rfl
theorem frz0_junk (q : Nat) (zz : List AV) (ee : List (List AV))  : frz0 q zz ee AV.junk = AV.junk := by rfl
theorem ren3_junk (q R : Nat)  : ren3 q R AV.junk = AV.junk := by rfl
theorem ren1_junk (q R : Nat)  : ren1 q R AV.junk = AV.junk := by rfl
theorem ren0_junk (q R : Nat)  : ren0 q R AV.junk = AV.junk := by rfl
theorem leA_junk  (y : AV) : leA AV.junk y = (AV.junk = y) := by rfl
theorem leV1_junk  (y : AV) : leV1 AV.junk y = (AV.junk = y) := by rfl
theorem lk0_int (k : IntKind) (n : Int) (y : AV) : lk0 (AV.int k n) y = [] := by cases y <;> rfl
theorem lk0_bool (b : Bool) (y : AV) : lk0 (AV.bool b) y = [] := by cases y <;> rfl
theorem lk0_str (s : List UInt8) (y : AV) : lk0 (AV.str s) y = [] := by cases y <;> rfl
theorem lk0_agg (cs : List AV) (y : AV) : lk0 (.agg cs) y = [] := by cases y <;> rfl
theorem lk0_tup (vs : List AV) (y : AV) : lk0 (AV.tup vs) y = [] := by cases y <;> rfl
theorem lk0_lst (z : List AV) (es : List (List AV)) (y : AV) : lk0 (AV.lst z es) y = [] := by cases y <;> rfl
theorem lk0_ep (z : List AV) (es : List (List AV)) (i o : Nat) (y : AV) : lk0 (AV.ep z es i o) y = [] := by cases y <;> rfl
theorem lk0_ptr (r o : Nat) (y : AV) : lk0 (AV.ptr r o) y = [] := by cases y <;> rfl
theorem lk0_ap (r o n i : Nat) (y : AV) : lk0 (AV.ap r o n i) y = [] := by cases y <;> rfl
theorem lk0_vw_lst (r a b c : Nat) (z : List AV) (es : List (List AV)) : lk0 (AV.vw r a b c) (.lst z es) = [.frz r] := by rfl
theorem lk0_vw_vw (r a b c R a1 b1 c1 : Nat) : lk0 (.vw r a b c) (.vw R a1 b1 c1) = renK r R (r == R) := by rfl
theorem lk0_vw_int (r a b c : Nat) (k1 : IntKind) (n1 : Int) : lk0 (AV.vw r a b c) (AV.int k1 n1) = [] := by rfl
theorem lk0_vw_bool (r a b c : Nat) (b1 : Bool) : lk0 (AV.vw r a b c) (AV.bool b1) = [] := by rfl
theorem lk0_vw_str (r a b c : Nat) (s1 : List UInt8) : lk0 (AV.vw r a b c) (AV.str s1) = [] := by rfl
theorem lk0_vw_agg (r a b c : Nat) (cs1 : List AV) : lk0 (AV.vw r a b c) (AV.agg cs1) = [] := by rfl
theorem lk0_vw_tup (r a b c : Nat) (vs1 : List AV) : lk0 (AV.vw r a b c) (AV.tup vs1) = [] := by rfl
theorem lk0_vw_ep (r a b c : Nat) (z1 : List AV) (es1 : List (List AV)) (i1 o1 : Nat) : lk0 (AV.vw r a b c) (AV.ep z1 es1 i1 o1) = [] := by rfl
theorem lk0_vw_ptr (r a b c : Nat) (r1 o1 : Nat) : lk0 (AV.vw r a b c) (AV.ptr r1 o1) = [] := by rfl
theorem lk0_vw_ap (r a b c : Nat) (r1 o1 n1 i1 : Nat) : lk0 (AV.vw r a b c) (AV.ap r1 o1 n1 i1) = [] := by rfl
theorem lk0_vw_sv (r a b c : Nat) (r1 a1 b1 c1 : Nat) : lk0 (AV.vw r a b c) (AV.sv r1 a1 b1 c1) = [] := by rfl
theorem lk0_vw_bp (r a b c : Nat) (r1 a1 i1 o1 : Nat) : lk0 (AV.vw r a b c) (AV.bp r1 a1 i1 o1) = [] := by rfl
theorem lk0_vw_fr (r a b c : Nat) (i1 t1 : Nat) (z1 : List AV) (es1 : List (List AV)) : lk0 (AV.vw r a b c) (AV.fr i1 t1 z1 es1) = [] := by rfl
theorem lk0_vw_fp (r a b c : Nat) (i1 : Nat) (cs1 : List AV) : lk0 (AV.vw r a b c) (AV.fp i1 cs1) = [] := by rfl
theorem lk0_vw_nb (r a b c : Nat) (e1 : Bool) : lk0 (AV.vw r a b c) (AV.nb e1) = [] := by rfl
theorem lk0_vw_fn (r a b c : Nat) (f1 : Nat) : lk0 (AV.vw r a b c) (AV.fn f1) = [] := by rfl
theorem lk0_vw_nil (r a b c : Nat)  : lk0 (AV.vw r a b c) (AV.nil) = [] := by rfl
theorem lk0_vw_junk (r a b c : Nat)  : lk0 (AV.vw r a b c) (AV.junk) = [] := by rfl
theorem lk0_sv_lst (r a b c : Nat) (z : List AV) (es : List (List AV)) : lk0 (AV.sv r a b c) (.lst z es) = [.frz r] := by rfl
theorem lk0_sv_int (r a b c : Nat) (k1 : IntKind) (n1 : Int) : lk0 (AV.sv r a b c) (AV.int k1 n1) = [] := by rfl
theorem lk0_sv_bool (r a b c : Nat) (b1 : Bool) : lk0 (AV.sv r a b c) (AV.bool b1) = [] := by rfl
theorem lk0_sv_str (r a b c : Nat) (s1 : List UInt8) : lk0 (AV.sv r a b c) (AV.str s1) = [] := by rfl
theorem lk0_sv_agg (r a b c : Nat) (cs1 : List AV) : lk0 (AV.sv r a b c) (AV.agg cs1) = [] := by rfl
theorem lk0_sv_tup (r a b c : Nat) (vs1 : List AV) : lk0 (AV.sv r a b c) (AV.tup vs1) = [] := by rfl
theorem lk0_sv_ep (r a b c : Nat) (z1 : List AV) (es1 : List (List AV)) (i1 o1 : Nat) : lk0 (AV.sv r a b c) (AV.ep z1 es1 i1 o1) = [] := by rfl
theorem lk0_sv_ptr (r a b c : Nat) (r1 o1 : Nat) : lk0 (AV.sv r a b c) (AV.ptr r1 o1) = [] := by rfl
theorem lk0_sv_ap (r a b c : Nat) (r1 o1 n1 i1 : Nat) : lk0 (AV.sv r a b c) (AV.ap r1 o1 n1 i1) = [] := by rfl
theorem lk0_sv_vw (r a b c : Nat) (r1 a1 b1 c1 : Nat) : lk0 (AV.sv r a b c) (AV.vw r1 a1 b1 c1) = [] := by rfl
theorem lk0_sv_sv (r a b c : Nat) (r1 a1 b1 c1 : Nat) : lk0 (AV.sv r a b c) (AV.sv r1 a1 b1 c1) = [] := by rfl
theorem lk0_sv_bp (r a b c : Nat) (r1 a1 i1 o1 : Nat) : lk0 (AV.sv r a b c) (AV.bp r1 a1 i1 o1) = [] := by rfl
theorem lk0_sv_fr (r a b c : Nat) (i1 t1 : Nat) (z1 : List AV) (es1 : List (List AV)) : lk0 (AV.sv r a b c) (AV.fr i1 t1 z1 es1) = [] := by rfl
theorem lk0_sv_fp (r a b c : Nat) (i1 : Nat) (cs1 : List AV) : lk0 (AV.sv r a b c) (AV.fp i1 cs1) = [] := by rfl
theorem lk0_sv_nb (r a b c : Nat) (e1 : Bool) : lk0 (AV.sv r a b c) (AV.nb e1) = [] := by rfl
theorem lk0_sv_fn (r a b c : Nat) (f1 : Nat) : lk0 (AV.sv r a b c) (AV.fn f1) = [] := by rfl
theorem lk0_sv_nil (r a b c : Nat)  : lk0 (AV.sv r a b c) (AV.nil) = [] := by rfl
theorem lk0_sv_junk (r a b c : Nat)  : lk0 (AV.sv r a b c) (AV.junk) = [] := by rfl
theorem lk0_bp (r a i o : Nat) (y : AV) : lk0 (AV.bp r a i o) y = [] := by cases y <;> rfl
theorem lk0_fr (i t : Nat) (z : List AV) (es : List (List AV)) (y : AV) : lk0 (AV.fr i t z es) y = [] := by cases y <;> rfl
theorem lk0_fp (i : Nat) (cs : List AV) (y : AV) : lk0 (AV.fp i cs) y = [] := by cases y <;> rfl
theorem lk0_nb (e : Bool) (y : AV) : lk0 (AV.nb e) y = [] := by cases y <;> rfl
theorem lk0_fn (f : Nat) (y : AV) : lk0 (AV.fn f) y = [] := by cases y <;> rfl
theorem lk0_nil  (y : AV) : lk0 (AV.nil) y = [] := by cases y <;> rfl
theorem lk0_junk  (y : AV) : lk0 (AV.junk) y = [] := by cases y <;> rfl
theorem lk1_int (k : IntKind) (n : Int) (y : AV) : lk1 (AV.int k n) y = [] := by cases y <;> rfl
theorem lk1_bool (b : Bool) (y : AV) : lk1 (AV.bool b) y = [] := by cases y <;> rfl
theorem lk1_str (s : List UInt8) (y : AV) : lk1 (AV.str s) y = [] := by cases y <;> rfl
theorem lk1_agg (xs ys : List AV) : lk1 (.agg xs) (.agg ys) = lkAs xs ys := by rfl
theorem lk1_tup (vs : List AV) (y : AV) : lk1 (AV.tup vs) y = [] := by cases y <;> rfl
theorem lk1_lst (z : List AV) (es : List (List AV)) (y : AV) : lk1 (AV.lst z es) y = [] := by cases y <;> rfl
theorem lk1_ep (z : List AV) (es : List (List AV)) (i o : Nat) (y : AV) : lk1 (AV.ep z es i o) y = [] := by cases y <;> rfl
theorem lk1_ptr (r o : Nat) (y : AV) : lk1 (AV.ptr r o) y = [] := by cases y <;> rfl
theorem lk1_ap (r o n i : Nat) (y : AV) : lk1 (AV.ap r o n i) y = [] := by cases y <;> rfl
theorem lk1_vw_lst (r a b c : Nat) (z : List AV) (es : List (List AV)) : lk1 (AV.vw r a b c) (.lst z es) = [.frz r] := by rfl
theorem lk1_vw_vw (r a b c R a1 b1 c1 : Nat) : lk1 (.vw r a b c) (.vw R a1 b1 c1) = renK r R (r == R) := by rfl
theorem lk1_vw_int (r a b c : Nat) (k1 : IntKind) (n1 : Int) : lk1 (AV.vw r a b c) (AV.int k1 n1) = [] := by rfl
theorem lk1_vw_bool (r a b c : Nat) (b1 : Bool) : lk1 (AV.vw r a b c) (AV.bool b1) = [] := by rfl
theorem lk1_vw_str (r a b c : Nat) (s1 : List UInt8) : lk1 (AV.vw r a b c) (AV.str s1) = [] := by rfl
theorem lk1_vw_agg (r a b c : Nat) (cs1 : List AV) : lk1 (AV.vw r a b c) (AV.agg cs1) = [] := by rfl
theorem lk1_vw_tup (r a b c : Nat) (vs1 : List AV) : lk1 (AV.vw r a b c) (AV.tup vs1) = [] := by rfl
theorem lk1_vw_ep (r a b c : Nat) (z1 : List AV) (es1 : List (List AV)) (i1 o1 : Nat) : lk1 (AV.vw r a b c) (AV.ep z1 es1 i1 o1) = [] := by rfl
theorem lk1_vw_ptr (r a b c : Nat) (r1 o1 : Nat) : lk1 (AV.vw r a b c) (AV.ptr r1 o1) = [] := by rfl
theorem lk1_vw_ap (r a b c : Nat) (r1 o1 n1 i1 : Nat) : lk1 (AV.vw r a b c) (AV.ap r1 o1 n1 i1) = [] := by rfl
theorem lk1_vw_sv (r a b c : Nat) (r1 a1 b1 c1 : Nat) : lk1 (AV.vw r a b c) (AV.sv r1 a1 b1 c1) = [] := by rfl
theorem lk1_vw_bp (r a b c : Nat) (r1 a1 i1 o1 : Nat) : lk1 (AV.vw r a b c) (AV.bp r1 a1 i1 o1) = [] := by rfl
theorem lk1_vw_fr (r a b c : Nat) (i1 t1 : Nat) (z1 : List AV) (es1 : List (List AV)) : lk1 (AV.vw r a b c) (AV.fr i1 t1 z1 es1) = [] := by rfl
theorem lk1_vw_fp (r a b c : Nat) (i1 : Nat) (cs1 : List AV) : lk1 (AV.vw r a b c) (AV.fp i1 cs1) = [] := by rfl
theorem lk1_vw_nb (r a b c : Nat) (e1 : Bool) : lk1 (AV.vw r a b c) (AV.nb e1) = [] := by rfl
theorem lk1_vw_fn (r a b c : Nat) (f1 : Nat) : lk1 (AV.vw r a b c) (AV.fn f1) = [] := by rfl
theorem lk1_vw_nil (r a b c : Nat)  : lk1 (AV.vw r a b c) (AV.nil) = [] := by rfl
theorem lk1_vw_junk (r a b c : Nat)  : lk1 (AV.vw r a b c) (AV.junk) = [] := by rfl
theorem lk1_sv_lst (r a b c : Nat) (z : List AV) (es : List (List AV)) : lk1 (AV.sv r a b c) (.lst z es) = [.frz r] := by rfl
theorem lk1_sv_int (r a b c : Nat) (k1 : IntKind) (n1 : Int) : lk1 (AV.sv r a b c) (AV.int k1 n1) = [] := by rfl
theorem lk1_sv_bool (r a b c : Nat) (b1 : Bool) : lk1 (AV.sv r a b c) (AV.bool b1) = [] := by rfl
theorem lk1_sv_str (r a b c : Nat) (s1 : List UInt8) : lk1 (AV.sv r a b c) (AV.str s1) = [] := by rfl
theorem lk1_sv_agg (r a b c : Nat) (cs1 : List AV) : lk1 (AV.sv r a b c) (AV.agg cs1) = [] := by rfl
theorem lk1_sv_tup (r a b c : Nat) (vs1 : List AV) : lk1 (AV.sv r a b c) (AV.tup vs1) = [] := by rfl
theorem lk1_sv_ep (r a b c : Nat) (z1 : List AV) (es1 : List (List AV)) (i1 o1 : Nat) : lk1 (AV.sv r a b c) (AV.ep z1 es1 i1 o1) = [] := by rfl
theorem lk1_sv_ptr (r a b c : Nat) (r1 o1 : Nat) : lk1 (AV.sv r a b c) (AV.ptr r1 o1) = [] := by rfl
theorem lk1_sv_ap (r a b c : Nat) (r1 o1 n1 i1 : Nat) : lk1 (AV.sv r a b c) (AV.ap r1 o1 n1 i1) = [] := by rfl
theorem lk1_sv_vw (r a b c : Nat) (r1 a1 b1 c1 : Nat) : lk1 (AV.sv r a b c) (AV.vw r1 a1 b1 c1) = [] := by rfl
theorem lk1_sv_sv (r a b c : Nat) (r1 a1 b1 c1 : Nat) : lk1 (AV.sv r a b c) (AV.sv r1 a1 b1 c1) = [] := by rfl
theorem lk1_sv_bp (r a b c : Nat) (r1 a1 i1 o1 : Nat) : lk1 (AV.sv r a b c) (AV.bp r1 a1 i1 o1) = [] := by rfl
theorem lk1_sv_fr (r a b c : Nat) (i1 t1 : Nat) (z1 : List AV) (es1 : List (List AV)) : lk1 (AV.sv r a b c) (AV.fr i1 t1 z1 es1) = [] := by rfl
theorem lk1_sv_fp (r a b c : Nat) (i1 : Nat) (cs1 : List AV) : lk1 (AV.sv r a b c) (AV.fp i1 cs1) = [] := by rfl
theorem lk1_sv_nb (r a b c : Nat) (e1 : Bool) : lk1 (AV.sv r a b c) (AV.nb e1) = [] := by rfl
theorem lk1_sv_fn (r a b c : Nat) (f1 : Nat) : lk1 (AV.sv r a b c) (AV.fn f1) = [] := by rfl
theorem lk1_sv_nil (r a b c : Nat)  : lk1 (AV.sv r a b c) (AV.nil) = [] := by rfl
theorem lk1_sv_junk (r a b c : Nat)  : lk1 (AV.sv r a b c) (AV.junk) = [] := by rfl
theorem lk1_bp (r a i o : Nat) (y : AV) : lk1 (AV.bp r a i o) y = [] := by cases y <;> rfl
theorem lk1_fr (i t : Nat) (z : List AV) (es : List (List AV)) (y : AV) : lk1 (AV.fr i t z es) y = [] := by cases y <;> rfl
theorem lk1_fp (i : Nat) (cs : List AV) (y : AV) : lk1 (AV.fp i cs) y = [] := by cases y <;> rfl
theorem lk1_nb (e : Bool) (y : AV) : lk1 (AV.nb e) y = [] := by cases y <;> rfl
theorem lk1_fn (f : Nat) (y : AV) : lk1 (AV.fn f) y = [] := by cases y <;> rfl
theorem lk1_nil  (y : AV) : lk1 (AV.nil) y = [] := by cases y <;> rfl
theorem lk1_junk  (y : AV) : lk1 (AV.junk) y = [] := by cases y <;> rfl
theorem lkS_int (B : Nat → Option Blk) (d : Nat) (k : IntKind) (n : Int) (y : AV) : lkS B d (AV.int k n) y = [] := by cases y <;> rfl
theorem lkS_bool (B : Nat → Option Blk) (d : Nat) (b : Bool) (y : AV) : lkS B d (AV.bool b) y = [] := by cases y <;> rfl
theorem lkS_str (B : Nat → Option Blk) (d : Nat) (s : List UInt8) (y : AV) : lkS B d (AV.str s) y = [] := by cases y <;> rfl
theorem lkS_agg (B : Nat → Option Blk) (d : Nat) (xs ys : List AV) : lkS B d (.agg xs) (.agg ys) = lkAs xs ys := by rfl
theorem lkS_tup (B : Nat → Option Blk) (d : Nat) (vs : List AV) (y : AV) : lkS B d (AV.tup vs) y = [] := by cases y <;> rfl
theorem lkS_lst (B : Nat → Option Blk) (d : Nat) (z : List AV) (es : List (List AV)) (y : AV) : lkS B d (AV.lst z es) y = [] := by cases y <;> rfl
theorem lkS_ep (B : Nat → Option Blk) (d : Nat) (z : List AV) (es : List (List AV)) (i o : Nat) (y : AV) : lkS B d (AV.ep z es i o) y = [] := by cases y <;> rfl
theorem lkS_ptr (B : Nat → Option Blk) (d : Nat) (r o : Nat) (y : AV) : lkS B d (AV.ptr r o) y = [] := by cases y <;> rfl
theorem lkS_ap (B : Nat → Option Blk) (d : Nat) (r o n i : Nat) (y : AV) : lkS B d (AV.ap r o n i) y = [] := by cases y <;> rfl
theorem lkS_vw_lst (B : Nat → Option Blk) (d : Nat) (r a b c : Nat) (z : List AV) (es : List (List AV)) : lkS B d (AV.vw r a b c) (.lst z es) = [.frz r] := by rfl
theorem lkS_vw_vw (B : Nat → Option Blk) (d : Nat) (r a b c R a1 b1 c1 : Nat) : lkS B d (.vw r a b c) (.vw R a1 b1 c1) = renK r R (r == R) := by rfl
theorem lkS_vw_int (B : Nat → Option Blk) (d : Nat) (r a b c : Nat) (k1 : IntKind) (n1 : Int) : lkS B d (AV.vw r a b c) (AV.int k1 n1) = [] := by rfl
theorem lkS_vw_bool (B : Nat → Option Blk) (d : Nat) (r a b c : Nat) (b1 : Bool) : lkS B d (AV.vw r a b c) (AV.bool b1) = [] := by rfl
theorem lkS_vw_str (B : Nat → Option Blk) (d : Nat) (r a b c : Nat) (s1 : List UInt8) : lkS B d (AV.vw r a b c) (AV.str s1) = [] := by rfl
theorem lkS_vw_agg (B : Nat → Option Blk) (d : Nat) (r a b c : Nat) (cs1 : List AV) : lkS B d (AV.vw r a b c) (AV.agg cs1) = [] := by rfl
theorem lkS_vw_tup (B : Nat → Option Blk) (d : Nat) (r a b c : Nat) (vs1 : List AV) : lkS B d (AV.vw r a b c) (AV.tup vs1) = [] := by rfl
theorem lkS_vw_ep (B : Nat → Option Blk) (d : Nat) (r a b c : Nat) (z1 : List AV) (es1 : List (List AV)) (i1 o1 : Nat) : lkS B d (AV.vw r a b c) (AV.ep z1 es1 i1 o1) = [] := by rfl
theorem lkS_vw_ptr (B : Nat → Option Blk) (d : Nat) (r a b c : Nat) (r1 o1 : Nat) : lkS B d (AV.vw r a b c) (AV.ptr r1 o1) = [] := by rfl
theorem lkS_vw_ap (B : Nat → Option Blk) (d : Nat) (r a b c : Nat) (r1 o1 n1 i1 : Nat) : lkS B d (AV.vw r a b c) (AV.ap r1 o1 n1 i1) = [] := by rfl
theorem lkS_vw_sv (B : Nat → Option Blk) (d : Nat) (r a b c : Nat) (r1 a1 b1 c1 : Nat) : lkS B d (AV.vw r a b c) (AV.sv r1 a1 b1 c1) = [] := by rfl
theorem lkS_vw_bp (B : Nat → Option Blk) (d : Nat) (r a b c : Nat) (r1 a1 i1 o1 : Nat) : lkS B d (AV.vw r a b c) (AV.bp r1 a1 i1 o1) = [] := by rfl
theorem lkS_vw_fr (B : Nat → Option Blk) (d : Nat) (r a b c : Nat) (i1 t1 : Nat) (z1 : List AV) (es1 : List (List AV)) : lkS B d (AV.vw r a b c) (AV.fr i1 t1 z1 es1) = [] := by rfl
theorem lkS_vw_fp (B : Nat → Option Blk) (d : Nat) (r a b c : Nat) (i1 : Nat) (cs1 : List AV) : lkS B d (AV.vw r a b c) (AV.fp i1 cs1) = [] := by rfl
theorem lkS_vw_nb (B : Nat → Option Blk) (d : Nat) (r a b c : Nat) (e1 : Bool) : lkS B d (AV.vw r a b c) (AV.nb e1) = [] := by rfl
theorem lkS_vw_fn (B : Nat → Option Blk) (d : Nat) (r a b c : Nat) (f1 : Nat) : lkS B d (AV.vw r a b c) (AV.fn f1) = [] := by rfl
theorem lkS_vw_nil (B : Nat → Option Blk) (d : Nat) (r a b c : Nat)  : lkS B d (AV.vw r a b c) (AV.nil) = [] := by rfl
theorem lkS_vw_junk (B : Nat → Option Blk) (d : Nat) (r a b c : Nat)  : lkS B d (AV.vw r a b c) (AV.junk) = [] := by rfl
theorem lkS_sv_lst (B : Nat → Option Blk) (d : Nat) (r a b c : Nat) (z : List AV) (es : List (List AV)) : lkS B d (AV.sv r a b c) (.lst z es) = [.frz r] := by rfl
theorem lkS_sv_int (B : Nat → Option Blk) (d : Nat) (r a b c : Nat) (k1 : IntKind) (n1 : Int) : lkS B d (AV.sv r a b c) (AV.int k1 n1) = [] := by rfl
theorem lkS_sv_bool (B : Nat → Option Blk) (d : Nat) (r a b c : Nat) (b1 : Bool) : lkS B d (AV.sv r a b c) (AV.bool b1) = [] := by rfl
theorem lkS_sv_str (B : Nat → Option Blk) (d : Nat) (r a b c : Nat) (s1 : List UInt8) : lkS B d (AV.sv r a b c) (AV.str s1) = [] := by rfl
theorem lkS_sv_agg (B : Nat → Option Blk) (d : Nat) (r a b c : Nat) (cs1 : List AV) : lkS B d (AV.sv r a b c) (AV.agg cs1) = [] := by rfl
theorem lkS_sv_tup (B : Nat → Option Blk) (d : Nat) (r a b c : Nat) (vs1 : List AV) : lkS B d (AV.sv r a b c) (AV.tup vs1) = [] := by rfl
theorem lkS_sv_ep (B : Nat → Option Blk) (d : Nat) (r a b c : Nat) (z1 : List AV) (es1 : List (List AV)) (i1 o1 : Nat) : lkS B d (AV.sv r a b c) (AV.ep z1 es1 i1 o1) = [] := by rfl
theorem lkS_sv_ptr (B : Nat → Option Blk) (d : Nat) (r a b c : Nat) (r1 o1 : Nat) : lkS B d (AV.sv r a b c) (AV.ptr r1 o1) = [] := by rfl
theorem lkS_sv_ap (B : Nat → Option Blk) (d : Nat) (r a b c : Nat) (r1 o1 n1 i1 : Nat) : lkS B d (AV.sv r a b c) (AV.ap r1 o1 n1 i1) = [] := by rfl
theorem lkS_sv_vw (B : Nat → Option Blk) (d : Nat) (r a b c : Nat) (r1 a1 b1 c1 : Nat) : lkS B d (AV.sv r a b c) (AV.vw r1 a1 b1 c1) = [] := by rfl
theorem lkS_sv_sv (B : Nat → Option Blk) (d : Nat) (r a b c : Nat) (r1 a1 b1 c1 : Nat) : lkS B d (AV.sv r a b c) (AV.sv r1 a1 b1 c1) = [] := by rfl
theorem lkS_sv_bp (B : Nat → Option Blk) (d : Nat) (r a b c : Nat) (r1 a1 i1 o1 : Nat) : lkS B d (AV.sv r a b c) (AV.bp r1 a1 i1 o1) = [] := by rfl
theorem lkS_sv_fr (B : Nat → Option Blk) (d : Nat) (r a b c : Nat) (i1 t1 : Nat) (z1 : List AV) (es1 : List (List AV)) : lkS B d (AV.sv r a b c) (AV.fr i1 t1 z1 es1) = [] := by rfl
theorem lkS_sv_fp (B : Nat → Option Blk) (d : Nat) (r a b c : Nat) (i1 : Nat) (cs1 : List AV) : lkS B d (AV.sv r a b c) (AV.fp i1 cs1) = [] := by rfl
theorem lkS_sv_nb (B : Nat → Option Blk) (d : Nat) (r a b c : Nat) (e1 : Bool) : lkS B d (AV.sv r a b c) (AV.nb e1) = [] := by rfl
theorem lkS_sv_fn (B : Nat → Option Blk) (d : Nat) (r a b c : Nat) (f1 : Nat) : lkS B d (AV.sv r a b c) (AV.fn f1) = [] := by rfl
theorem lkS_sv_nil (B : Nat → Option Blk) (d : Nat) (r a b c : Nat)  : lkS B d (AV.sv r a b c) (AV.nil) = [] := by rfl
theorem lkS_sv_junk (B : Nat → Option Blk) (d : Nat) (r a b c : Nat)  : lkS B d (AV.sv r a b c) (AV.junk) = [] := by rfl
theorem lkS_bp (B : Nat → Option Blk) (d : Nat) (r a i o : Nat) (y : AV) : lkS B d (AV.bp r a i o) y = [] := by cases y <;> rfl
theorem lkS_fr (B : Nat → Option Blk) (d : Nat) (i t : Nat) (z : List AV) (es : List (List AV)) (y : AV) : lkS B d (AV.fr i t z es) y = [] := by cases y <;> rfl
theorem lkS_fp (B : Nat → Option Blk) (d : Nat) (i : Nat) (cs : List AV) (y : AV) : lkS B d (AV.fp i cs) y = [] := by cases y <;> rfl
theorem lkS_nb (B : Nat → Option Blk) (d : Nat) (e : Bool) (y : AV) : lkS B d (AV.nb e) y = [] := by cases y <;> rfl
theorem lkS_fn (B : Nat → Option Blk) (d : Nat) (f : Nat) (y : AV) : lkS B d (AV.fn f) y = [] := by cases y <;> rfl
theorem lkS_nil_vw (B : Nat → Option Blk) (d : Nat) (R a b c : Nat) : lkS B d .nil (.vw R a b c) = nlK d R (B R) := by rfl
theorem lkS_nil_int (B : Nat → Option Blk) (d : Nat) (k : IntKind) (n : Int) : lkS B d .nil (AV.int k n) = [] := by rfl
theorem lkS_nil_bool (B : Nat → Option Blk) (d : Nat) (b : Bool) : lkS B d .nil (AV.bool b) = [] := by rfl
theorem lkS_nil_str (B : Nat → Option Blk) (d : Nat) (s : List UInt8) : lkS B d .nil (AV.str s) = [] := by rfl
theorem lkS_nil_agg (B : Nat → Option Blk) (d : Nat) (cs : List AV) : lkS B d .nil (AV.agg cs) = [] := by rfl
theorem lkS_nil_tup (B : Nat → Option Blk) (d : Nat) (vs : List AV) : lkS B d .nil (AV.tup vs) = [] := by rfl
theorem lkS_nil_lst (B : Nat → Option Blk) (d : Nat) (z : List AV) (es : List (List AV)) : lkS B d .nil (AV.lst z es) = [] := by rfl
theorem lkS_nil_ep (B : Nat → Option Blk) (d : Nat) (z : List AV) (es : List (List AV)) (i o : Nat) : lkS B d .nil (AV.ep z es i o) = [] := by rfl
theorem lkS_nil_ptr (B : Nat → Option Blk) (d : Nat) (r o : Nat) : lkS B d .nil (AV.ptr r o) = [] := by rfl
theorem lkS_nil_ap (B : Nat → Option Blk) (d : Nat) (r o n i : Nat) : lkS B d .nil (AV.ap r o n i) = [] := by rfl
theorem lkS_nil_sv (B : Nat → Option Blk) (d : Nat) (r a b c : Nat) : lkS B d .nil (AV.sv r a b c) = [] := by rfl
theorem lkS_nil_bp (B : Nat → Option Blk) (d : Nat) (r a i o : Nat) : lkS B d .nil (AV.bp r a i o) = [] := by rfl
theorem lkS_nil_fr (B : Nat → Option Blk) (d : Nat) (i t : Nat) (z : List AV) (es : List (List AV)) : lkS B d .nil (AV.fr i t z es) = [] := by rfl
theorem lkS_nil_fp (B : Nat → Option Blk) (d : Nat) (i : Nat) (cs : List AV) : lkS B d .nil (AV.fp i cs) = [] := by rfl
theorem lkS_nil_nb (B : Nat → Option Blk) (d : Nat) (e : Bool) : lkS B d .nil (AV.nb e) = [] := by rfl
theorem lkS_nil_fn (B : Nat → Option Blk) (d : Nat) (f : Nat) : lkS B d .nil (AV.fn f) = [] := by rfl
theorem lkS_nil_nil (B : Nat → Option Blk) (d : Nat)  : lkS B d .nil (AV.nil) = [] := by rfl
theorem lkS_nil_junk (B : Nat → Option Blk) (d : Nat)  : lkS B d .nil (AV.junk) = [] := by rfl
theorem lkS_junk (B : Nat → Option Blk) (d : Nat)  (y : AV) : lkS B d (AV.junk) y = [] := by cases y <;> rfl
theorem lkC0_int (B : Nat → Option Blk) (r0 i0 : Nat) (k : IntKind) (n : Int) (y : AV) : lkC0 B r0 i0 (AV.int k n) y = [] := by cases y <;> rfl
theorem lkC0_bool (B : Nat → Option Blk) (r0 i0 : Nat) (b : Bool) (y : AV) : lkC0 B r0 i0 (AV.bool b) y = [] := by cases y <;> rfl
theorem lkC0_str (B : Nat → Option Blk) (r0 i0 : Nat) (s : List UInt8) (y : AV) : lkC0 B r0 i0 (AV.str s) y = [] := by cases y <;> rfl
theorem lkC0_agg (B : Nat → Option Blk) (r0 i0 : Nat) (cs : List AV) (y : AV) : lkC0 B r0 i0 (.agg cs) y = [] := by cases y <;> rfl
theorem lkC0_tup (B : Nat → Option Blk) (r0 i0 : Nat) (vs : List AV) (y : AV) : lkC0 B r0 i0 (AV.tup vs) y = [] := by cases y <;> rfl
theorem lkC0_lst (B : Nat → Option Blk) (r0 i0 : Nat) (z : List AV) (es : List (List AV)) (y : AV) : lkC0 B r0 i0 (AV.lst z es) y = [] := by cases y <;> rfl
theorem lkC0_ep (B : Nat → Option Blk) (r0 i0 : Nat) (z : List AV) (es : List (List AV)) (i o : Nat) (y : AV) : lkC0 B r0 i0 (AV.ep z es i o) y = [] := by cases y <;> rfl
theorem lkC0_ptr (B : Nat → Option Blk) (r0 i0 : Nat) (r o : Nat) (y : AV) : lkC0 B r0 i0 (AV.ptr r o) y = [] := by cases y <;> rfl
theorem lkC0_ap (B : Nat → Option Blk) (r0 i0 : Nat) (r o n i : Nat) (y : AV) : lkC0 B r0 i0 (AV.ap r o n i) y = [] := by cases y <;> rfl
theorem lkC0_vw_lst (B : Nat → Option Blk) (r0 i0 : Nat) (r a b c : Nat) (z : List AV) (es : List (List AV)) : lkC0 B r0 i0 (AV.vw r a b c) (.lst z es) = [.frz r] := by rfl
theorem lkC0_vw_vw (B : Nat → Option Blk) (r0 i0 : Nat) (r a b c R a1 b1 c1 : Nat) : lkC0 B r0 i0 (.vw r a b c) (.vw R a1 b1 c1) = renK r R (r == R) := by rfl
theorem lkC0_vw_int (B : Nat → Option Blk) (r0 i0 : Nat) (r a b c : Nat) (k1 : IntKind) (n1 : Int) : lkC0 B r0 i0 (AV.vw r a b c) (AV.int k1 n1) = [] := by rfl
theorem lkC0_vw_bool (B : Nat → Option Blk) (r0 i0 : Nat) (r a b c : Nat) (b1 : Bool) : lkC0 B r0 i0 (AV.vw r a b c) (AV.bool b1) = [] := by rfl
theorem lkC0_vw_str (B : Nat → Option Blk) (r0 i0 : Nat) (r a b c : Nat) (s1 : List UInt8) : lkC0 B r0 i0 (AV.vw r a b c) (AV.str s1) = [] := by rfl
theorem lkC0_vw_agg (B : Nat → Option Blk) (r0 i0 : Nat) (r a b c : Nat) (cs1 : List AV) : lkC0 B r0 i0 (AV.vw r a b c) (AV.agg cs1) = [] := by rfl
theorem lkC0_vw_tup (B : Nat → Option Blk) (r0 i0 : Nat) (r a b c : Nat) (vs1 : List AV) : lkC0 B r0 i0 (AV.vw r a b c) (AV.tup vs1) = [] := by rfl
theorem lkC0_vw_ep (B : Nat → Option Blk) (r0 i0 : Nat) (r a b c : Nat) (z1 : List AV) (es1 : List (List AV)) (i1 o1 : Nat) : lkC0 B r0 i0 (AV.vw r a b c) (AV.ep z1 es1 i1 o1) = [] := by rfl
theorem lkC0_vw_ptr (B : Nat → Option Blk) (r0 i0 : Nat) (r a b c : Nat) (r1 o1 : Nat) : lkC0 B r0 i0 (AV.vw r a b c) (AV.ptr r1 o1) = [] := by rfl
theorem lkC0_vw_ap (B : Nat → Option Blk) (r0 i0 : Nat) (r a b c : Nat) (r1 o1 n1 i1 : Nat) : lkC0 B r0 i0 (AV.vw r a b c) (AV.ap r1 o1 n1 i1) = [] := by rfl
theorem lkC0_vw_sv (B : Nat → Option Blk) (r0 i0 : Nat) (r a b c : Nat) (r1 a1 b1 c1 : Nat) : lkC0 B r0 i0 (AV.vw r a b c) (AV.sv r1 a1 b1 c1) = [] := by rfl
theorem lkC0_vw_bp (B : Nat → Option Blk) (r0 i0 : Nat) (r a b c : Nat) (r1 a1 i1 o1 : Nat) : lkC0 B r0 i0 (AV.vw r a b c) (AV.bp r1 a1 i1 o1) = [] := by rfl
theorem lkC0_vw_fr (B : Nat → Option Blk) (r0 i0 : Nat) (r a b c : Nat) (i1 t1 : Nat) (z1 : List AV) (es1 : List (List AV)) : lkC0 B r0 i0 (AV.vw r a b c) (AV.fr i1 t1 z1 es1) = [] := by rfl
theorem lkC0_vw_fp (B : Nat → Option Blk) (r0 i0 : Nat) (r a b c : Nat) (i1 : Nat) (cs1 : List AV) : lkC0 B r0 i0 (AV.vw r a b c) (AV.fp i1 cs1) = [] := by rfl
theorem lkC0_vw_nb (B : Nat → Option Blk) (r0 i0 : Nat) (r a b c : Nat) (e1 : Bool) : lkC0 B r0 i0 (AV.vw r a b c) (AV.nb e1) = [] := by rfl
theorem lkC0_vw_fn (B : Nat → Option Blk) (r0 i0 : Nat) (r a b c : Nat) (f1 : Nat) : lkC0 B r0 i0 (AV.vw r a b c) (AV.fn f1) = [] := by rfl
theorem lkC0_vw_nil (B : Nat → Option Blk) (r0 i0 : Nat) (r a b c : Nat)  : lkC0 B r0 i0 (AV.vw r a b c) (AV.nil) = [] := by rfl
theorem lkC0_vw_junk (B : Nat → Option Blk) (r0 i0 : Nat) (r a b c : Nat)  : lkC0 B r0 i0 (AV.vw r a b c) (AV.junk) = [] := by rfl
theorem lkC0_sv_lst (B : Nat → Option Blk) (r0 i0 : Nat) (r a b c : Nat) (z : List AV) (es : List (List AV)) : lkC0 B r0 i0 (AV.sv r a b c) (.lst z es) = [.frz r] := by rfl
theorem lkC0_sv_int (B : Nat → Option Blk) (r0 i0 : Nat) (r a b c : Nat) (k1 : IntKind) (n1 : Int) : lkC0 B r0 i0 (AV.sv r a b c) (AV.int k1 n1) = [] := by rfl
theorem lkC0_sv_bool (B : Nat → Option Blk) (r0 i0 : Nat) (r a b c : Nat) (b1 : Bool) : lkC0 B r0 i0 (AV.sv r a b c) (AV.bool b1) = [] := by rfl
theorem lkC0_sv_str (B : Nat → Option Blk) (r0 i0 : Nat) (r a b c : Nat) (s1 : List UInt8) : lkC0 B r0 i0 (AV.sv r a b c) (AV.str s1) = [] := by rfl
theorem lkC0_sv_agg (B : Nat → Option Blk) (r0 i0 : Nat) (r a b c : Nat) (cs1 : List AV) : lkC0 B r0 i0 (AV.sv r a b c) (AV.agg cs1) = [] := by rfl
theorem lkC0_sv_tup (B : Nat → Option Blk) (r0 i0 : Nat) (r a b c : Nat) (vs1 : List AV) : lkC0 B r0 i0 (AV.sv r a b c) (AV.tup vs1) = [] := by rfl
theorem lkC0_sv_ep (B : Nat → Option Blk) (r0 i0 : Nat) (r a b c : Nat) (z1 : List AV) (es1 : List (List AV)) (i1 o1 : Nat) : lkC0 B r0 i0 (AV.sv r a b c) (AV.ep z1 es1 i1 o1) = [] := by rfl
theorem lkC0_sv_ptr (B : Nat → Option Blk) (r0 i0 : Nat) (r a b c : Nat) (r1 o1 : Nat) : lkC0 B r0 i0 (AV.sv r a b c) (AV.ptr r1 o1) = [] := by rfl
theorem lkC0_sv_ap (B : Nat → Option Blk) (r0 i0 : Nat) (r a b c : Nat) (r1 o1 n1 i1 : Nat) : lkC0 B r0 i0 (AV.sv r a b c) (AV.ap r1 o1 n1 i1) = [] := by rfl
theorem lkC0_sv_vw (B : Nat → Option Blk) (r0 i0 : Nat) (r a b c : Nat) (r1 a1 b1 c1 : Nat) : lkC0 B r0 i0 (AV.sv r a b c) (AV.vw r1 a1 b1 c1) = [] := by rfl
theorem lkC0_sv_sv (B : Nat → Option Blk) (r0 i0 : Nat) (r a b c : Nat) (r1 a1 b1 c1 : Nat) : lkC0 B r0 i0 (AV.sv r a b c) (AV.sv r1 a1 b1 c1) = [] := by rfl
theorem lkC0_sv_bp (B : Nat → Option Blk) (r0 i0 : Nat) (r a b c : Nat) (r1 a1 i1 o1 : Nat) : lkC0 B r0 i0 (AV.sv r a b c) (AV.bp r1 a1 i1 o1) = [] := by rfl
theorem lkC0_sv_fr (B : Nat → Option Blk) (r0 i0 : Nat) (r a b c : Nat) (i1 t1 : Nat) (z1 : List AV) (es1 : List (List AV)) : lkC0 B r0 i0 (AV.sv r a b c) (AV.fr i1 t1 z1 es1) = [] := by rfl
theorem lkC0_sv_fp (B : Nat → Option Blk) (r0 i0 : Nat) (r a b c : Nat) (i1 : Nat) (cs1 : List AV) : lkC0 B r0 i0 (AV.sv r a b c) (AV.fp i1 cs1) = [] := by rfl
theorem lkC0_sv_nb (B : Nat → Option Blk) (r0 i0 : Nat) (r a b c : Nat) (e1 : Bool) : lkC0 B r0 i0 (AV.sv r a b c) (AV.nb e1) = [] := by rfl
theorem lkC0_sv_fn (B : Nat → Option Blk) (r0 i0 : Nat) (r a b c : Nat) (f1 : Nat) : lkC0 B r0 i0 (AV.sv r a b c) (AV.fn f1) = [] := by rfl
theorem lkC0_sv_nil (B : Nat → Option Blk) (r0 i0 : Nat) (r a b c : Nat)  : lkC0 B r0 i0 (AV.sv r a b c) (AV.nil) = [] := by rfl
theorem lkC0_sv_junk (B : Nat → Option Blk) (r0 i0 : Nat) (r a b c : Nat)  : lkC0 B r0 i0 (AV.sv r a b c) (AV.junk) = [] := by rfl
theorem lkC0_bp (B : Nat → Option Blk) (r0 i0 : Nat) (r a i o : Nat) (y : AV) : lkC0 B r0 i0 (AV.bp r a i o) y = [] := by cases y <;> rfl
theorem lkC0_fr (B : Nat → Option Blk) (r0 i0 : Nat) (i t : Nat) (z : List AV) (es : List (List AV)) (y : AV) : lkC0 B r0 i0 (AV.fr i t z es) y = [] := by cases y <;> rfl
theorem lkC0_fp (B : Nat → Option Blk) (r0 i0 : Nat) (i : Nat) (cs : List AV) (y : AV) : lkC0 B r0 i0 (AV.fp i cs) y = [] := by cases y <;> rfl
theorem lkC0_nb (B : Nat → Option Blk) (r0 i0 : Nat) (e : Bool) (y : AV) : lkC0 B r0 i0 (AV.nb e) y = [] := by cases y <;> rfl
theorem lkC0_fn (B : Nat → Option Blk) (r0 i0 : Nat) (f : Nat) (y : AV) : lkC0 B r0 i0 (AV.fn f) y = [] := by cases y <;> rfl
theorem lkC0_nil_vw (B : Nat → Option Blk) (r0 i0 : Nat) (R a b c : Nat) : lkC0 B r0 i0 .nil (.vw R a b c) = nlKc r0 i0 R (B R) := by rfl
theorem lkC0_nil_int (B : Nat → Option Blk) (r0 i0 : Nat) (k : IntKind) (n : Int) : lkC0 B r0 i0 .nil (AV.int k n) = [] := by rfl
theorem lkC0_nil_bool (B : Nat → Option Blk) (r0 i0 : Nat) (b : Bool) : lkC0 B r0 i0 .nil (AV.bool b) = [] := by rfl
theorem lkC0_nil_str (B : Nat → Option Blk) (r0 i0 : Nat) (s : List UInt8) : lkC0 B r0 i0 .nil (AV.str s) = [] := by rfl
theorem lkC0_nil_agg (B : Nat → Option Blk) (r0 i0 : Nat) (cs : List AV) : lkC0 B r0 i0 .nil (AV.agg cs) = [] := by rfl
theorem lkC0_nil_tup (B : Nat → Option Blk) (r0 i0 : Nat) (vs : List AV) : lkC0 B r0 i0 .nil (AV.tup vs) = [] := by rfl
theorem lkC0_nil_lst (B : Nat → Option Blk) (r0 i0 : Nat) (z : List AV) (es : List (List AV)) : lkC0 B r0 i0 .nil (AV.lst z es) = [] := by rfl
theorem lkC0_nil_ep (B : Nat → Option Blk) (r0 i0 : Nat) (z : List AV) (es : List (List AV)) (i o : Nat) : lkC0 B r0 i0 .nil (AV.ep z es i o) = [] := by rfl
theorem lkC0_nil_ptr (B : Nat → Option Blk) (r0 i0 : Nat) (r o : Nat) : lkC0 B r0 i0 .nil (AV.ptr r o) = [] := by rfl
theorem lkC0_nil_ap (B : Nat → Option Blk) (r0 i0 : Nat) (r o n i : Nat) : lkC0 B r0 i0 .nil (AV.ap r o n i) = [] := by rfl
theorem lkC0_nil_sv (B : Nat → Option Blk) (r0 i0 : Nat) (r a b c : Nat) : lkC0 B r0 i0 .nil (AV.sv r a b c) = [] := by rfl
theorem lkC0_nil_bp (B : Nat → Option Blk) (r0 i0 : Nat) (r a i o : Nat) : lkC0 B r0 i0 .nil (AV.bp r a i o) = [] := by rfl
theorem lkC0_nil_fr (B : Nat → Option Blk) (r0 i0 : Nat) (i t : Nat) (z : List AV) (es : List (List AV)) : lkC0 B r0 i0 .nil (AV.fr i t z es) = [] := by rfl
theorem lkC0_nil_fp (B : Nat → Option Blk) (r0 i0 : Nat) (i : Nat) (cs : List AV) : lkC0 B r0 i0 .nil (AV.fp i cs) = [] := by rfl
theorem lkC0_nil_nb (B : Nat → Option Blk) (r0 i0 : Nat) (e : Bool) : lkC0 B r0 i0 .nil (AV.nb e) = [] := by rfl
theorem lkC0_nil_fn (B : Nat → Option Blk) (r0 i0 : Nat) (f : Nat) : lkC0 B r0 i0 .nil (AV.fn f) = [] := by rfl
theorem lkC0_nil_nil (B : Nat → Option Blk) (r0 i0 : Nat)  : lkC0 B r0 i0 .nil (AV.nil) = [] := by rfl
theorem lkC0_nil_junk (B : Nat → Option Blk) (r0 i0 : Nat)  : lkC0 B r0 i0 .nil (AV.junk) = [] := by rfl
theorem lkC0_junk (B : Nat → Option Blk) (r0 i0 : Nat)  (y : AV) : lkC0 B r0 i0 (AV.junk) y = [] := by cases y <;> rfl
theorem unfr0_int (d : Nat) (k : IntKind) (n : Int) : unfr0 d (AV.int k n) = AV.int k n := by rfl
theorem unfr0_bool (d : Nat) (b : Bool) : unfr0 d (AV.bool b) = AV.bool b := by rfl
theorem unfr0_str (d : Nat) (s : List UInt8) : unfr0 d (AV.str s) = AV.str s := by rfl
theorem unfr0_lst (d : Nat) (z : List AV) (es : List (List AV)) : unfr0 d (AV.lst z es) = AV.lst z es := by rfl
theorem unfr0_fr (d : Nat) (i t : Nat) (z : List AV) (es : List (List AV)) : unfr0 d (AV.fr i t z es) = .vw (64 * d + 64 + i) 0 0 0 := by rfl
theorem unfr0_fp (d : Nat) (i : Nat) (cs : List AV) : unfr0 d (AV.fp i cs) = .ptr (64 * d + 64 + i) 0 := by rfl
theorem unfr0_fn (d : Nat) (f : Nat) : unfr0 d (AV.fn f) = AV.fn f := by rfl
theorem unfr0_nil (d : Nat)  : unfr0 d (AV.nil) = AV.nil := by rfl
theorem unfr1_int (d : Nat) (k : IntKind) (n : Int) : unfr1 d (AV.int k n) = AV.int k n := by rfl
theorem unfr1_bool (d : Nat) (b : Bool) : unfr1 d (AV.bool b) = AV.bool b := by rfl
theorem unfr1_str (d : Nat) (s : List UInt8) : unfr1 d (AV.str s) = AV.str s := by rfl
theorem unfr1_agg (d : Nat) (cs : List AV) : unfr1 d (AV.agg cs) = .agg (cs.map (unfr0 d)) := by rfl
theorem unfr1_lst (d : Nat) (z : List AV) (es : List (List AV)) : unfr1 d (AV.lst z es) = AV.lst z es := by rfl
theorem unfr1_fr (d : Nat) (i t : Nat) (z : List AV) (es : List (List AV)) : unfr1 d (AV.fr i t z es) = .vw (64 * d + 64 + i) 0 0 0 := by rfl
theorem unfr1_fp (d : Nat) (i : Nat) (cs : List AV) : unfr1 d (AV.fp i cs) = .ptr (64 * d + 64 + i) 0 := by rfl
theorem unfr1_fn (d : Nat) (f : Nat) : unfr1 d (AV.fn f) = AV.fn f := by rfl
theorem unfr1_nil (d : Nat)  : unfr1 d (AV.nil) = AV.nil := by rfl
theorem unfr2_int (d : Nat) (k : IntKind) (n : Int) : unfr2 d (AV.int k n) = AV.int k n := by rfl
theorem unfr2_bool (d : Nat) (b : Bool) : unfr2 d (AV.bool b) = AV.bool b := by rfl
theorem unfr2_str (d : Nat) (s : List UInt8) : unfr2 d (AV.str s) = AV.str s := by rfl
theorem unfr2_agg (d : Nat) (cs : List AV) : unfr2 d (AV.agg cs) = .agg (cs.map (unfr0 d)) := by rfl
theorem unfr2_tup (d : Nat) (vs : List AV) : unfr2 d (AV.tup vs) = .tup (vs.map (unfr1 d)) := by rfl
theorem unfr2_lst (d : Nat) (z : List AV) (es : List (List AV)) : unfr2 d (AV.lst z es) = AV.lst z es := by rfl
theorem unfr2_fr (d : Nat) (i t : Nat) (z : List AV) (es : List (List AV)) : unfr2 d (AV.fr i t z es) = .vw (64 * d + 64 + i) 0 0 0 := by rfl
theorem unfr2_fp (d : Nat) (i : Nat) (cs : List AV) : unfr2 d (AV.fp i cs) = .ptr (64 * d + 64 + i) 0 := by rfl
theorem unfr2_fn (d : Nat) (f : Nat) : unfr2 d (AV.fn f) = AV.fn f := by rfl
theorem unfr2_nil (d : Nat)  : unfr2 d (AV.nil) = AV.nil := by rfl
theorem frs0_int (k : IntKind) (n : Int) : frs0 (AV.int k n) = [] := by rfl
theorem frs0_bool (b : Bool) : frs0 (AV.bool b) = [] := by rfl
theorem frs0_str (s : List UInt8) : frs0 (AV.str s) = [] := by rfl
theorem frs0_lst (z : List AV) (es : List (List AV)) : frs0 (AV.lst z es) = [] := by rfl
theorem frs0_fr (i t : Nat) (z : List AV) (es : List (List AV)) : frs0 (AV.fr i t z es) = [(i, .buf t z es)] := by rfl
theorem frs0_fp (i : Nat) (cs : List AV) : frs0 (AV.fp i cs) = [(i, .cells cs)] := by rfl
theorem frs0_fn (f : Nat) : frs0 (AV.fn f) = [] := by rfl
theorem frs0_nil  : frs0 (AV.nil) = [] := by rfl
theorem frs1_int (k : IntKind) (n : Int) : frs1 (AV.int k n) = [] := by rfl
theorem frs1_bool (b : Bool) : frs1 (AV.bool b) = [] := by rfl
theorem frs1_str (s : List UInt8) : frs1 (AV.str s) = [] := by rfl
theorem frs1_agg (cs : List AV) : frs1 (AV.agg cs) = frsL cs := by rfl
theorem frs1_lst (z : List AV) (es : List (List AV)) : frs1 (AV.lst z es) = [] := by rfl
theorem frs1_fr (i t : Nat) (z : List AV) (es : List (List AV)) : frs1 (AV.fr i t z es) = [(i, .buf t z es)] := by rfl
theorem frs1_fp (i : Nat) (cs : List AV) : frs1 (AV.fp i cs) = [(i, .cells cs)] := by rfl
theorem frs1_fn (f : Nat) : frs1 (AV.fn f) = [] := by rfl
theorem frs1_nil  : frs1 (AV.nil) = [] := by rfl
theorem frs2_int (k : IntKind) (n : Int) : frs2 (AV.int k n) = [] := by rfl
theorem frs2_bool (b : Bool) : frs2 (AV.bool b) = [] := by rfl
theorem frs2_str (s : List UInt8) : frs2 (AV.str s) = [] := by rfl
theorem frs2_agg (cs : List AV) : frs2 (AV.agg cs) = frsL cs := by rfl
theorem frs2_tup (vs : List AV) : frs2 (AV.tup vs) = frsV vs := by rfl
theorem frs2_lst (z : List AV) (es : List (List AV)) : frs2 (AV.lst z es) = [] := by rfl
theorem frs2_fr (i t : Nat) (z : List AV) (es : List (List AV)) : frs2 (AV.fr i t z es) = [(i, .buf t z es)] := by rfl
theorem frs2_fp (i : Nat) (cs : List AV) : frs2 (AV.fp i cs) = [(i, .cells cs)] := by rfl
theorem frs2_fn (f : Nat) : frs2 (AV.fn f) = [] := by rfl
theorem frs2_nil  : frs2 (AV.nil) = [] := by rfl
theorem wfX0_int (k : IntKind) (n : Int) : wfX0 (AV.int k n) = true := by rfl
theorem wfX0_bool (b : Bool) : wfX0 (AV.bool b) = true := by rfl
theorem wfX0_str (s : List UInt8) : wfX0 (AV.str s) = true := by rfl
theorem wfX0_lst (z : List AV) (es : List (List AV)) : wfX0 (AV.lst z es) = true := by rfl
theorem wfX0_fr (i t : Nat) (z : List AV) (es : List (List AV)) : wfX0 (AV.fr i t z es) = decide (0 < z.length) := by rfl
theorem wfX0_fp (i : Nat) (cs : List AV) : wfX0 (AV.fp i cs) = cs.all AV.clean0 := by rfl
theorem wfX0_fn (f : Nat) : wfX0 (AV.fn f) = true := by rfl
theorem wfX0_nil  : wfX0 (AV.nil) = true := by rfl
theorem wfX1_int (k : IntKind) (n : Int) : wfX1 (AV.int k n) = true := by rfl
theorem wfX1_bool (b : Bool) : wfX1 (AV.bool b) = true := by rfl
theorem wfX1_str (s : List UInt8) : wfX1 (AV.str s) = true := by rfl
theorem wfX1_agg (cs : List AV) : wfX1 (AV.agg cs) = cs.all wfX0 := by rfl
theorem wfX1_lst (z : List AV) (es : List (List AV)) : wfX1 (AV.lst z es) = true := by rfl
theorem wfX1_fr (i t : Nat) (z : List AV) (es : List (List AV)) : wfX1 (AV.fr i t z es) = decide (0 < z.length) := by rfl
theorem wfX1_fp (i : Nat) (cs : List AV) : wfX1 (AV.fp i cs) = cs.all AV.clean0 := by rfl
theorem wfX1_fn (f : Nat) : wfX1 (AV.fn f) = true := by rfl
theorem wfX1_nil  : wfX1 (AV.nil) = true := by rfl
theorem wfX2_int (k : IntKind) (n : Int) : wfX2 (AV.int k n) = true := by rfl
theorem wfX2_bool (b : Bool) : wfX2 (AV.bool b) = true := by rfl
theorem wfX2_str (s : List UInt8) : wfX2 (AV.str s) = true := by rfl
theorem wfX2_agg (cs : List AV) : wfX2 (AV.agg cs) = cs.all wfX0 := by rfl
theorem wfX2_tup (vs : List AV) : wfX2 (AV.tup vs) = vs.all wfX1 := by rfl
theorem wfX2_lst (z : List AV) (es : List (List AV)) : wfX2 (AV.lst z es) = true := by rfl
theorem wfX2_fr (i t : Nat) (z : List AV) (es : List (List AV)) : wfX2 (AV.fr i t z es) = decide (0 < z.length) := by rfl
theorem wfX2_fp (i : Nat) (cs : List AV) : wfX2 (AV.fp i cs) = cs.all AV.clean0 := by rfl
theorem wfX2_fn (f : Nat) : wfX2 (AV.fn f) = true := by rfl
theorem wfX2_nil  : wfX2 (AV.nil) = true := by rfl
theorem flatX0_int (k : IntKind) (n : Int) : flatX0 (AV.int k n) = true := by rfl
theorem flatX0_bool (b : Bool) : flatX0 (AV.bool b) = true := by rfl
theorem flatX0_str (s : List UInt8) : flatX0 (AV.str s) = true := by rfl
theorem flatX0_lst (z : List AV) (es : List (List AV)) : flatX0 (AV.lst z es) = false := by rfl
theorem flatX0_fr (i t : Nat) (z : List AV) (es : List (List AV)) : flatX0 (AV.fr i t z es) = z.all flatC := by rfl
theorem flatX0_fp (i : Nat) (cs : List AV) : flatX0 (AV.fp i cs) = cs.all AV.flat0 := by rfl
theorem flatX0_fn (f : Nat) : flatX0 (AV.fn f) = true := by rfl
theorem flatX0_nil  : flatX0 (AV.nil) = true := by rfl
theorem flatX1_int (k : IntKind) (n : Int) : flatX1 (AV.int k n) = true := by rfl
theorem flatX1_bool (b : Bool) : flatX1 (AV.bool b) = true := by rfl
theorem flatX1_str (s : List UInt8) : flatX1 (AV.str s) = true := by rfl
theorem flatX1_agg (cs : List AV) : flatX1 (AV.agg cs) = cs.all flatX0 := by rfl
theorem flatX1_lst (z : List AV) (es : List (List AV)) : flatX1 (AV.lst z es) = false := by rfl
theorem flatX1_fr (i t : Nat) (z : List AV) (es : List (List AV)) : flatX1 (AV.fr i t z es) = z.all flatC := by rfl
theorem flatX1_fp (i : Nat) (cs : List AV) : flatX1 (AV.fp i cs) = cs.all AV.flat0 := by rfl
theorem flatX1_fn (f : Nat) : flatX1 (AV.fn f) = true := by rfl
theorem flatX1_nil  : flatX1 (AV.nil) = true := by rfl
theorem flatX2_int (k : IntKind) (n : Int) : flatX2 (AV.int k n) = true := by rfl
theorem flatX2_bool (b : Bool) : flatX2 (AV.bool b) = true := by rfl
theorem flatX2_str (s : List UInt8) : flatX2 (AV.str s) = true := by rfl
theorem flatX2_agg (cs : List AV) : flatX2 (AV.agg cs) = cs.all flatX0 := by rfl
theorem flatX2_tup (vs : List AV) : flatX2 (AV.tup vs) = vs.all flatX1 := by rfl
theorem flatX2_lst (z : List AV) (es : List (List AV)) : flatX2 (AV.lst z es) = false := by rfl
theorem flatX2_fr (i t : Nat) (z : List AV) (es : List (List AV)) : flatX2 (AV.fr i t z es) = z.all flatC := by rfl
theorem flatX2_fp (i : Nat) (cs : List AV) : flatX2 (AV.fp i cs) = cs.all AV.flat0 := by rfl
theorem flatX2_fn (f : Nat) : flatX2 (AV.fn f) = true := by rfl
theorem flatX2_nil  : flatX2 (AV.nil) = true := by rfl
theorem flat0_int (k : IntKind) (n : Int) : AV.flat0 (AV.int k n) = true := by rfl
theorem flat0_bool (b : Bool) : AV.flat0 (AV.bool b) = true := by rfl
theorem flat0_str (s : List UInt8) : AV.flat0 (AV.str s) = true := by rfl
theorem flat0_lst (z : List AV) (es : List (List AV)) : AV.flat0 (AV.lst z es) = false := by rfl
theorem flat0_fn (f : Nat) : AV.flat0 (AV.fn f) = true := by rfl
theorem flat0_nil  : AV.flat0 (AV.nil) = true := by rfl
theorem flat1_int (k : IntKind) (n : Int) : AV.flat1 (AV.int k n) = true := by rfl
theorem flat1_bool (b : Bool) : AV.flat1 (AV.bool b) = true := by rfl
theorem flat1_str (s : List UInt8) : AV.flat1 (AV.str s) = true := by rfl
theorem flat1_agg (cs : List AV) : AV.flat1 (AV.agg cs) = cs.all AV.flat0 := by rfl
theorem flat1_lst (z : List AV) (es : List (List AV)) : AV.flat1 (AV.lst z es) = false := by rfl
theorem flat1_fn (f : Nat) : AV.flat1 (AV.fn f) = true := by rfl
theorem flat1_nil  : AV.flat1 (AV.nil) = true := by rfl
theorem flat2_int (k : IntKind) (n : Int) : AV.flat2 (AV.int k n) = true := by rfl
theorem flat2_bool (b : Bool) : AV.flat2 (AV.bool b) = true := by rfl
theorem flat2_str (s : List UInt8) : AV.flat2 (AV.str s) = true := by rfl
theorem flat2_agg (cs : List AV) : AV.flat2 (AV.agg cs) = cs.all AV.flat0 := by rfl
theorem flat2_tup (vs : List AV) : AV.flat2 (AV.tup vs) = vs.all AV.flat1 := by rfl
theorem flat2_lst (z : List AV) (es : List (List AV)) : AV.flat2 (AV.lst z es) = false := by rfl
theorem flat2_fn (f : Nat) : AV.flat2 (AV.fn f) = true := by rfl
theorem flat2_nil  : AV.flat2 (AV.nil) = true := by rfl
theorem flatC_int (k : IntKind) (n : Int) : flatC (.int k n) = true := by rfl
theorem flatC_bool (b : Bool) : flatC (.bool b) = true := by rfl
theorem flatC_str (s : List UInt8) : flatC (.str s) = true := by rfl
theorem flatC_nil  : flatC .nil = false := by rfl
theorem flatC_lst (z : List AV) (es : List (List AV)) : flatC (.lst z es) = false := by rfl
theorem lendA_int (m : Nat → Option Blk) (k : IntKind) (n : Int) : lendA m (AV.int k n) = some (AV.int k n, []) := by rfl
theorem lendA_bool (m : Nat → Option Blk) (b : Bool) : lendA m (AV.bool b) = some (AV.bool b, []) := by rfl
theorem lendA_str (m : Nat → Option Blk) (s : List UInt8) : lendA m (AV.str s) = some (AV.str s, []) := by rfl
theorem lendA_lst (m : Nat → Option Blk) (z : List AV) (es : List (List AV)) : lendA m (AV.lst z es) = some (AV.lst z es, []) := by rfl
theorem lendA_vw (m : Nat → Option Blk) (r a b c : Nat) : lendA m (AV.vw r a b c) = lendB r (m r) := by rfl
theorem lendA_sv (m : Nat → Option Blk) (r a b c : Nat) : lendA m (AV.sv r a b c) = lendP r a b c (m r) := by rfl
theorem lendA_fn (m : Nat → Option Blk) (f : Nat) : lendA m (AV.fn f) = some (AV.fn f, []) := by rfl
theorem lendA_nil (m : Nat → Option Blk)  : lendA m (AV.nil) = some (AV.nil, []) := by rfl
theorem lend1_int (m : Nat → Option Blk) (k : IntKind) (n : Int) : lend1 m (AV.int k n) = some (AV.int k n, []) := by rfl
theorem lend1_bool (m : Nat → Option Blk) (b : Bool) : lend1 m (AV.bool b) = some (AV.bool b, []) := by rfl
theorem lend1_str (m : Nat → Option Blk) (s : List UInt8) : lend1 m (AV.str s) = some (AV.str s, []) := by rfl
theorem lend1_agg (m : Nat → Option Blk) (cs : List AV) : lend1 m (AV.agg cs) = aggL (lendC m cs) := by rfl
theorem lend1_lst (m : Nat → Option Blk) (z : List AV) (es : List (List AV)) : lend1 m (AV.lst z es) = some (AV.lst z es, []) := by rfl
theorem lend1_vw (m : Nat → Option Blk) (r a b c : Nat) : lend1 m (AV.vw r a b c) = lendB r (m r) := by rfl
theorem lend1_sv (m : Nat → Option Blk) (r a b c : Nat) : lend1 m (AV.sv r a b c) = lendP r a b c (m r) := by rfl
theorem lend1_fn (m : Nat → Option Blk) (f : Nat) : lend1 m (AV.fn f) = some (AV.fn f, []) := by rfl
theorem lend1_nil (m : Nat → Option Blk)  : lend1 m (AV.nil) = some (AV.nil, []) := by rfl
theorem vws0_int (k : IntKind) (n : Int) : vws0 (AV.int k n) = [] := by rfl
theorem vws0_bool (b : Bool) : vws0 (AV.bool b) = [] := by rfl
theorem vws0_str (s : List UInt8) : vws0 (AV.str s) = [] := by rfl
theorem vws0_agg (cs : List AV) : vws0 (AV.agg cs) = [] := by rfl
theorem vws0_tup (vs : List AV) : vws0 (AV.tup vs) = [] := by rfl
theorem vws0_lst (z : List AV) (es : List (List AV)) : vws0 (AV.lst z es) = [] := by rfl
theorem vws0_ep (z : List AV) (es : List (List AV)) (i o : Nat) : vws0 (AV.ep z es i o) = [] := by rfl
theorem vws0_ptr (r o : Nat) : vws0 (AV.ptr r o) = [] := by rfl
theorem vws0_ap (r o n i : Nat) : vws0 (AV.ap r o n i) = [] := by rfl
theorem vws0_vw (r a b c : Nat) : vws0 (AV.vw r a b c) = [r] := by rfl
theorem vws0_sv (r a b c : Nat) : vws0 (AV.sv r a b c) = [r] := by rfl
theorem vws0_bp (r a i o : Nat) : vws0 (AV.bp r a i o) = [] := by rfl
theorem vws0_fr (i t : Nat) (z : List AV) (es : List (List AV)) : vws0 (AV.fr i t z es) = [] := by rfl
theorem vws0_fp (i : Nat) (cs : List AV) : vws0 (AV.fp i cs) = [] := by rfl
theorem vws0_nb (e : Bool) : vws0 (AV.nb e) = [] := by rfl
theorem vws0_fn (f : Nat) : vws0 (AV.fn f) = [] := by rfl
theorem vws0_nil  : vws0 (AV.nil) = [] := by rfl
theorem vws0_junk  : vws0 (AV.junk) = [] := by rfl
theorem vws1_int (k : IntKind) (n : Int) : vws1 (AV.int k n) = [] := by rfl
theorem vws1_bool (b : Bool) : vws1 (AV.bool b) = [] := by rfl
theorem vws1_str (s : List UInt8) : vws1 (AV.str s) = [] := by rfl
theorem vws1_agg (cs : List AV) : vws1 (AV.agg cs) = vwsL cs := by rfl
theorem vws1_tup (vs : List AV) : vws1 (AV.tup vs) = [] := by rfl
theorem vws1_lst (z : List AV) (es : List (List AV)) : vws1 (AV.lst z es) = [] := by rfl
theorem vws1_ep (z : List AV) (es : List (List AV)) (i o : Nat) : vws1 (AV.ep z es i o) = [] := by rfl
theorem vws1_ptr (r o : Nat) : vws1 (AV.ptr r o) = [] := by rfl
theorem vws1_ap (r o n i : Nat) : vws1 (AV.ap r o n i) = [] := by rfl
theorem vws1_vw (r a b c : Nat) : vws1 (AV.vw r a b c) = [r] := by rfl
theorem vws1_sv (r a b c : Nat) : vws1 (AV.sv r a b c) = [r] := by rfl
theorem vws1_bp (r a i o : Nat) : vws1 (AV.bp r a i o) = [] := by rfl
theorem vws1_fr (i t : Nat) (z : List AV) (es : List (List AV)) : vws1 (AV.fr i t z es) = [] := by rfl
theorem vws1_fp (i : Nat) (cs : List AV) : vws1 (AV.fp i cs) = [] := by rfl
theorem vws1_nb (e : Bool) : vws1 (AV.nb e) = [] := by rfl
theorem vws1_fn (f : Nat) : vws1 (AV.fn f) = [] := by rfl
theorem vws1_nil  : vws1 (AV.nil) = [] := by rfl
theorem vws1_junk  : vws1 (AV.junk) = [] := by rfl
theorem vwsT_ep (v : AV) (z : List AV) (es : List (List AV)) (i o : Nat) : vwsT v (AV.ep z es i o) = [] := by rfl
theorem vwsT_ptr (v : AV) (r o : Nat) : vwsT v (AV.ptr r o) = [] := by rfl
theorem vwsT_ap (v : AV) (r o n i : Nat) : vwsT v (AV.ap r o n i) = [] := by rfl
theorem vwsT_bp (v : AV) (r a i o : Nat) : vwsT v (AV.bp r a i o) = vws1 v := by rfl
theorem leX0_int (m : Nat → Option Blk) (x : AV) (k : IntKind) (n : Int) : leX0 m x (AV.int k n) = leA x (AV.int k n) := by cases x <;> rfl
theorem leX1_int (m : Nat → Option Blk) (x : AV) (k : IntKind) (n : Int) : leX1 m x (AV.int k n) = leA x (AV.int k n) := by cases x <;> rfl
theorem pq0_int (x : AV) (k : IntKind) (n : Int) : pq0 x (AV.int k n) = [] := by cases x <;> rfl
theorem pq1_int (x : AV) (k : IntKind) (n : Int) : pq1 x (AV.int k n) = [] := by cases x <;> rfl
theorem leX0_bool (m : Nat → Option Blk) (x : AV) (b : Bool) : leX0 m x (AV.bool b) = leA x (AV.bool b) := by cases x <;> rfl
theorem leX1_bool (m : Nat → Option Blk) (x : AV) (b : Bool) : leX1 m x (AV.bool b) = leA x (AV.bool b) := by cases x <;> rfl
theorem pq0_bool (x : AV) (b : Bool) : pq0 x (AV.bool b) = [] := by cases x <;> rfl
theorem pq1_bool (x : AV) (b : Bool) : pq1 x (AV.bool b) = [] := by cases x <;> rfl
theorem leX0_str (m : Nat → Option Blk) (x : AV) (s : List UInt8) : leX0 m x (AV.str s) = leA x (AV.str s) := by cases x <;> rfl
theorem leX1_str (m : Nat → Option Blk) (x : AV) (s : List UInt8) : leX1 m x (AV.str s) = leA x (AV.str s) := by cases x <;> rfl
theorem pq0_str (x : AV) (s : List UInt8) : pq0 x (AV.str s) = [] := by cases x <;> rfl
theorem pq1_str (x : AV) (s : List UInt8) : pq1 x (AV.str s) = [] := by cases x <;> rfl
theorem leX0_lst (m : Nat → Option Blk) (x : AV) (z : List AV) (es : List (List AV)) : leX0 m x (AV.lst z es) = leA x (AV.lst z es) := by cases x <;> rfl
theorem leX1_lst (m : Nat → Option Blk) (x : AV) (z : List AV) (es : List (List AV)) : leX1 m x (AV.lst z es) = leA x (AV.lst z es) := by cases x <;> rfl
theorem pq0_lst (x : AV) (z : List AV) (es : List (List AV)) : pq0 x (AV.lst z es) = [] := by cases x <;> rfl
theorem pq1_lst (x : AV) (z : List AV) (es : List (List AV)) : pq1 x (AV.lst z es) = [] := by cases x <;> rfl
theorem leX0_fn (m : Nat → Option Blk) (x : AV) (f : Nat) : leX0 m x (AV.fn f) = leA x (AV.fn f) := by cases x <;> rfl
theorem leX1_fn (m : Nat → Option Blk) (x : AV) (f : Nat) : leX1 m x (AV.fn f) = leA x (AV.fn f) := by cases x <;> rfl
theorem pq0_fn (x : AV) (f : Nat) : pq0 x (AV.fn f) = [] := by cases x <;> rfl
theorem pq1_fn (x : AV) (f : Nat) : pq1 x (AV.fn f) = [] := by cases x <;> rfl
theorem leX0_nil (m : Nat → Option Blk) (x : AV)  : leX0 m x (AV.nil) = leA x (AV.nil) := by cases x <;> rfl
theorem leX1_nil (m : Nat → Option Blk) (x : AV)  : leX1 m x (AV.nil) = leA x (AV.nil) := by cases x <;> rfl
theorem pq0_nil (x : AV)  : pq0 x (AV.nil) = [] := by cases x <;> rfl
theorem pq1_nil (x : AV)  : pq1 x (AV.nil) = [] := by cases x <;> rfl
theorem leX0_fr_vw (m : Nat → Option Blk) (j t : Nat) (z : List AV) (es : List (List AV)) (r a b c : Nat) : leX0 m (.vw r a b c) (.fr j t z es) = leFB (m r) t z es := by rfl
theorem leX0_fr_nil (m : Nat → Option Blk) (j t : Nat) (z : List AV) (es : List (List AV)) : leX0 m .nil (.fr j t z es) = (es = []) := by rfl
theorem leX0_fp (m : Nat → Option Blk) (j : Nat) (cs : List AV) (r : Nat) : leX0 m (.ptr r 0) (.fp j cs) = leFC (m r) cs := by rfl
theorem pq0_fr_vw (j t : Nat) (z : List AV) (es : List (List AV)) (r a b c : Nat) : pq0 (.vw r a b c) (.fr j t z es) = [(j, some r)] := by rfl
theorem pq0_fr_nil (j t : Nat) (z : List AV) (es : List (List AV)) : pq0 .nil (.fr j t z es) = [(j, none)] := by rfl
theorem pq0_fp (j : Nat) (cs : List AV) (r o : Nat) : pq0 (.ptr r o) (.fp j cs) = [(j, some r)] := by rfl
theorem leX1_fr_vw (m : Nat → Option Blk) (j t : Nat) (z : List AV) (es : List (List AV)) (r a b c : Nat) : leX1 m (.vw r a b c) (.fr j t z es) = leFB (m r) t z es := by rfl
theorem leX1_fr_nil (m : Nat → Option Blk) (j t : Nat) (z : List AV) (es : List (List AV)) : leX1 m .nil (.fr j t z es) = (es = []) := by rfl
theorem leX1_fp (m : Nat → Option Blk) (j : Nat) (cs : List AV) (r : Nat) : leX1 m (.ptr r 0) (.fp j cs) = leFC (m r) cs := by rfl
theorem pq1_fr_vw (j t : Nat) (z : List AV) (es : List (List AV)) (r a b c : Nat) : pq1 (.vw r a b c) (.fr j t z es) = [(j, some r)] := by rfl
theorem pq1_fr_nil (j t : Nat) (z : List AV) (es : List (List AV)) : pq1 .nil (.fr j t z es) = [(j, none)] := by rfl
theorem pq1_fp (j : Nat) (cs : List AV) (r o : Nat) : pq1 (.ptr r o) (.fp j cs) = [(j, some r)] := by rfl
theorem leX1_agg (m : Nat → Option Blk) (xs ys : List AV) : leX1 m (.agg xs) (.agg ys) = leXs m xs ys := by rfl
theorem pq1_agg (xs ys : List AV) : pq1 (.agg xs) (.agg ys) = pqL xs ys := by rfl
theorem evXV_some (st : Bool) (ι : Type) (fn : List AV → List AV → Option (Prop × (ι → Prop × AV × List AV))) (d : Nat) (σ : St) (K : St → Prop) (vs : List AV) : evXV st ι fn d σ K (some vs) = evX st ι fn d vs σ K := by rfl
theorem evX_f (ι : Type) (fn : List AV → List AV → Option (Prop × (ι → Prop × AV × List AV))) (d : Nat) (vs : List AV) (s : Nat → AV) (m : Nat → Option Blk) (K : St → Prop) : evX false ι fn d vs ⟨s, m⟩ K = evXA ι fn d ⟨s, m⟩ K (lends m vs) := by rfl
theorem evX_t (ι : Type) (fn : List AV → List AV → Option (Prop × (ι → Prop × AV × List AV))) (d r : Nat) (vs : List AV) (s : Nat → AV) (m : Nat → Option Blk) (K : St → Prop) : evX true ι fn d (.ptr r 0 :: vs) ⟨s, m⟩ K = evXC ι fn r d vs ⟨s, m⟩ K (m r) := by rfl
theorem evXA_some (ι : Type) (fn : List AV → List AV → Option (Prop × (ι → Prop × AV × List AV))) (d : Nat) (σ : St) (K : St → Prop) (vs : List AV) (bs : List Nat) : evXA ι fn d σ K (some (vs, bs)) = evXN ι d bs σ K (fn [] vs) := by rfl
theorem evXC_cells (ι : Type) (fn : List AV → List AV → Option (Prop × (ι → Prop × AV × List AV))) (r d : Nat) (vs : List AV) (s : Nat → AV) (m : Nat → Option Blk) (K : St → Prop) (cs : List AV) : evXC ι fn r d vs ⟨s, m⟩ K (some (.cells cs)) = evXB ι fn r d cs ⟨s, m⟩ K (lends m vs) := by rfl
theorem evXB_some (ι : Type) (fn : List AV → List AV → Option (Prop × (ι → Prop × AV × List AV))) (r d : Nat) (cs : List AV) (σ : St) (K : St → Prop) (vs : List AV) (bs : List Nat) : evXB ι fn r d cs σ K (some (vs, bs)) = (cs.all AV.clean0 = true ∧ evXM ι r d bs σ K (fn cs vs)) := by rfl
theorem evXN_some (ι : Type) (d : Nat) (bs : List Nat) (σ : St) (K : St → Prop) (q : Prop) (g : ι → Prop × AV × List AV) : evXN ι d bs σ K (some (q, g)) = (q ∧ ∀ i, evXP d bs σ K (g i)) := by rfl
theorem evXM_some (ι : Type) (r d : Nat) (bs : List Nat) (σ : St) (K : St → Prop) (q : Prop) (g : ι → Prop × AV × List AV) : evXM ι r d bs σ K (some (q, g)) = (q ∧ ∀ i, evXS r d bs σ K (g i)) := by rfl
theorem evXP_eq (d : Nat) (bs : List Nat) (σ : St) (K : St → Prop) (p : Prop) (r : AV) (cs : List AV) : evXP d bs σ K (p, r, cs) = (p → (wfX2 r && idsOK (frs2 r)) = true ∧ backX bs (flatX2 r) (flatL (frs2 r)) σ fun σ => K (putX d r σ)) := by rfl
theorem evXS_eq (r0 d : Nat) (bs : List Nat) (s : Nat → AV) (m : Nat → Option Blk) (K : St → Prop) (p : Prop) (r : AV) (cs : List AV) : evXS r0 d bs ⟨s, m⟩ K (p, r, cs) = (p → (wfX2 r && (idsOK (frs2 r) && cs.all AV.clean0)) = true ∧ backX bs (flatX2 r && cs.all AV.flat0) (flatL (frs2 r)) ⟨s, m⟩ fun σ => K (putX d r (setB r0 cs σ))) := by rfl
theorem setB_eq (r0 : Nat) (cs : List AV) (s : Nat → AV) (m : Nat → Option Blk) : setB r0 cs ⟨s, m⟩ = ⟨s, updM m r0 (some (.cells cs))⟩ := by rfl
theorem backX_nil (f : Bool) (fl : Prop) (σ : St) (K : St → Prop) : backX [] f fl σ K = K σ := by rfl
theorem backX_t (b : Nat) (bs : List Nat) (fl : Prop) (σ : St) (K : St → Prop) : backX (b :: bs) true fl σ K = (fl ∧ K σ) := by rfl
theorem backX_f (b : Nat) (bs : List Nat) (fl : Prop) (σ : St) (K : St → Prop) : backX (b :: bs) false fl σ K = (((b :: bs).all fun r => decide (64 ≤ r)) = true ∧ K (frzL (b :: bs) σ)) := by rfl
theorem putX_eq (d : Nat) (r : AV) (s : Nat → AV) (m : Nat → Option Blk) : putX d r ⟨s, m⟩ = putY d (unfr2 d r) (addF d (frs2 r) ⟨s, m⟩) := by rfl
theorem putY_eq (d : Nat) (v : AV) (s : Nat → AV) (m : Nat → Option Blk) : putY d v ⟨s, m⟩ = ⟨upd s d v, m⟩ := by rfl
theorem addF_nil (d : Nat) (σ : St) : addF d [] σ = σ := by rfl
theorem addF_cons (d j : Nat) (b : Blk) (l : List (Nat × Blk)) (s : Nat → AV) (m : Nat → Option Blk) : addF d ((j, b) :: l) ⟨s, m⟩ = addF d l ⟨killS (64 * d + 64 + j) s, updM (killM (64 * d + 64 + j) m) (64 * d + 64 + j) (some b)⟩ := by rfl
theorem frsL_nil  : frsL [] = [] := by rfl
theorem frsL_cons (x : AV) (xs : List AV) : frsL (x :: xs) = frs0 x ++ frsL xs := by rfl
theorem frsV_nil  : frsV [] = [] := by rfl
theorem frsV_cons (x : AV) (xs : List AV) : frsV (x :: xs) = frs1 x ++ frsV xs := by rfl
theorem flatL_nil  : flatL [] = True := by rfl
theorem flatL_buf (j t : Nat) (z : List AV) (es : List (List AV)) (l : List (Nat × Blk)) : flatL ((j, .buf t z es) :: l) = (FlatE es ∧ flatL l) := by rfl
theorem flatL_cells (j : Nat) (cs : List AV) (l : List (Nat × Blk)) : flatL ((j, .cells cs) :: l) = flatL l := by rfl
theorem nodupN_nil  : nodupN [] = true := by rfl
theorem nodupN_cons (x : Nat) (xs : List Nat) : nodupN (x :: xs) = (!xs.contains x && nodupN xs) := by rfl
theorem idsOK_eq (l : List (Nat × Blk)) : idsOK l = (nodupN (l.map (·.1)) && (l.map (·.1)).all fun j => decide (j < 64)) := by rfl
theorem lendC_nil (m : Nat → Option Blk) : lendC m [] = some ([], []) := by rfl
theorem lendC_cons (m : Nat → Option Blk) (x : AV) (xs : List AV) : lendC m (x :: xs) = consL (lendA m x) (lendC m xs) := by rfl
theorem lends_nil (m : Nat → Option Blk) : lends m [] = some ([], []) := by rfl
theorem lends_cons (m : Nat → Option Blk) (x : AV) (xs : List AV) : lends m (x :: xs) = consL (lend1 m x) (lends m xs) := by rfl
theorem consL_some' (v : AV) (b : List Nat) (vs : List AV) (bs : List Nat) : consL (some (v, b)) (some (vs, bs)) = some (v :: vs, b ++ bs) := by rfl
theorem aggL_some (cs : List AV) (b : List Nat) : aggL (some (cs, b)) = some (.agg cs, b) := by rfl
theorem lendB_buf (r t : Nat) (z : List AV) (es : List (List AV)) : lendB r (some (.buf t z es)) = some (.lst z es, [r]) := by rfl
theorem lendP_buf (r sz lo hi t : Nat) (z : List AV) (es : List (List AV)) : lendP r sz lo hi (some (.buf t z es)) = lendQ r lo hi z es (z.length == sz) := by simp only [lendP, lendQ]; cases (z.length == sz) <;> rfl
theorem lendQ_t (r lo hi : Nat) (z : List AV) (es : List (List AV)) : lendQ r lo hi z es true = some (.lst z ((es.drop lo).take (hi - lo)), [r]) := by rfl
theorem call_pure (m : Nat → Option Blk) (fn : List AV → List AV → Option (Prop × AV × List AV)) (vs : List AV) : callR m (some (.mk false fn)) vs = callN fn (lends m vs) := by rfl
theorem call_state (m : Nat → Option Blk) (fn : List AV → List AV → Option (Prop × AV × List AV)) (r : Nat) (vs : List AV) : callR m (some (.mk true fn)) (.ptr r 0 :: vs) = callC m fn r vs (m r) := by rfl
theorem callN_some (fn : List AV → List AV → Option (Prop × AV × List AV)) (vs : List AV) (bs : List Nat) : callN fn (some (vs, bs)) = callP [] bs (fn [] vs) := by rfl
theorem callC_cells (m : Nat → Option Blk) (fn : List AV → List AV → Option (Prop × AV × List AV)) (r : Nat) (vs cs : List AV) : callC m fn r vs (some (.cells cs)) = callB fn r cs (lends m vs) := by rfl
theorem callB_some (fn : List AV → List AV → Option (Prop × AV × List AV)) (r : Nat) (cs vs : List AV) (bs : List Nat) : callB fn r cs (some (vs, bs)) = callD r bs (cs.all AV.clean0) (fn cs vs) := by simp only [callB, callD]; cases cs.all AV.clean0 <;> rfl
theorem callD_t (r : Nat) (bs : List Nat) (x : Option (Prop × AV × List AV)) : callD r bs true x = callS r bs x := by rfl
theorem callP_some (t bs : List Nat) (q : Prop) (r : AV) (cs : List AV) : callP t bs (some (q, r, cs)) = clQ q r (t ++ bs) (r.clean2 && backOK bs r.flat2) := by simp only [callP, clQ]; cases (r.clean2 && backOK bs r.flat2) <;> rfl
theorem clQ_t (q : Prop) (r : AV) (t : List Nat) : clQ q r t true = some ⟨[q], [], r, [], none, t⟩ := by rfl
theorem callS_some (r : Nat) (bs : List Nat) (q : Prop) (v : AV) (cs : List AV) : callS r bs (some (q, v, cs)) = clU r q v cs bs (v.clean2 && (cs.all AV.clean0 && backOK bs (v.flat2 && cs.all AV.flat0))) := by simp only [callS, clU]; cases (v.clean2 && (cs.all AV.clean0 && backOK bs (v.flat2 && cs.all AV.flat0))) <;> rfl
theorem clU_t (r : Nat) (q : Prop) (v : AV) (cs : List AV) (bs : List Nat) : clU r q v cs bs true = some ⟨[q], [], v, [(r, .cells cs)], none, r :: bs⟩ := by rfl
theorem backOK_nil (f : Bool) : backOK [] f = true := by rfl
theorem backOK_cons (b : Nat) (bs : List Nat) (f : Bool) : backOK (b :: bs) f = f := by rfl
theorem frzL_nil (σ : St) : frzL [] σ = σ := by rfl
theorem frzL_cons (r : Nat) (rs : List Nat) (s : Nat → AV) (m : Nat → Option Blk) : frzL (r :: rs) ⟨s, m⟩ = frzL rs (frzQ r s m (m r)) := by rfl
theorem frzQ_buf (r t : Nat) (z : List AV) (es : List (List AV)) (s : Nat → AV) (m : Nat → Option Blk) : frzQ r s m (some (.buf t z es)) = frzP r z es s m (decide (64 ≤ r)) := by simp only [frzQ, frzP]; cases decide (64 ≤ r) <;> rfl
theorem frzQ_none (r : Nat) (s : Nat → AV) (m : Nat → Option Blk) : frzQ r s m none = ⟨s, m⟩ := by rfl
theorem frzQ_cells (r : Nat) (s : Nat → AV) (m : Nat → Option Blk) (cs : List AV) : frzQ r s m (some (.cells cs)) = ⟨s, m⟩ := by rfl
theorem frzP_t (r : Nat) (z : List AV) (es : List (List AV)) (s : Nat → AV) (m : Nat → Option Blk) : frzP r z es s m true = ⟨frzSl r z es s, updM (frzM r z es m) r none⟩ := by rfl
theorem frzSl_at (r : Nat) (z : List AV) (es : List (List AV)) (s : Nat → AV) (k : Nat) : frzSl r z es s k = frz3 r z es (s k) := by rfl
theorem frzM_at (r : Nat) (z : List AV) (es : List (List AV)) (m : Nat → Option Blk) (k : Nat) : frzM r z es m k = frzO r z es (m k) := by simp only [frzM, frzO]; cases m k <;> rfl
theorem frzO_none (r : Nat) (z : List AV) (es : List (List AV)) : frzO r z es none = none := by rfl
theorem frzO_some (r : Nat) (z : List AV) (es : List (List AV)) (b : Blk) : frzO r z es (some b) = some (frzB r z es b) := by rfl
theorem frzB_cells (r : Nat) (z : List AV) (es : List (List AV)) (cs : List AV) : frzB r z es (.cells cs) = .cells (cs.map (frz0 r z es)) := by rfl
theorem frzB_buf (r : Nat) (z : List AV) (es : List (List AV)) (t1 : Nat) (z1 : List AV) (es1 : List (List AV)) : frzB r z es (.buf t1 z1 es1) = .buf t1 z1 es1 := by rfl
theorem frz3_gd' (r : Nat) (z : List AV) (es : List (List AV)) (q : List (Nat × Bool)) (v : AV) : frz3 r z es (.gd q v) = .gd q (frz2 r z es v) := by rfl
theorem renSl_at (k R : Nat) (s : Nat → AV) (i : Nat) : renSl k R s i = ren3 k R (kill3 R (s i)) := by rfl
theorem renM_at (k R : Nat) (m : Nat → Option Blk) (i : Nat) : renM k R m i = renO k R (m i) := by simp only [renM, renO]; cases m i <;> rfl
theorem renO_none (k R : Nat) : renO k R none = none := by rfl
theorem renO_cells (k R : Nat) (cs : List AV) : renO k R (some (.cells cs)) = some (.cells ((cs.map (kill0 R)).map (ren0 k R))) := by rfl
theorem renO_buf (k R t : Nat) (z : List AV) (es : List (List AV)) : renO k R (some (.buf t z es)) = some (.buf t z es) := by rfl
theorem applyL_nil (σ : St) : applyL [] σ = σ := by rfl
theorem applyL_frz (k : Nat) (ls : List Lk) (s : Nat → AV) (m : Nat → Option Blk) : applyL (.frz k :: ls) ⟨s, m⟩ = applyL ls (frzQ k s m (m k)) := by rfl
theorem applyL_ren (k R : Nat) (ls : List Lk) (s : Nat → AV) (m : Nat → Option Blk) : applyL (.ren k R :: ls) ⟨s, m⟩ = applyL ls (renQ k R s m (m k)) := by rfl
theorem applyL_nls (d R T : Nat) (z : List AV) (ls : List Lk) (s : Nat → AV) (m : Nat → Option Blk) : applyL (.nls d R T z :: ls) ⟨s, m⟩ = applyL ls (nlV d R T z s m (s d)) := by rfl
theorem applyL_nlc (r i R T : Nat) (z : List AV) (ls : List Lk) (s : Nat → AV) (m : Nat → Option Blk) : applyL (.nlc r i R T z :: ls) ⟨s, m⟩ = applyL ls (nlC1 r i R T z s m (m r)) := by rfl
theorem renQ_buf (k R t : Nat) (z : List AV) (es : List (List AV)) (s : Nat → AV) (m : Nat → Option Blk) : renQ k R s m (some (.buf t z es)) = renP k R t z es s m (decide (64 ≤ R) && (decide (64 ≤ k) && !(k == R))) := by simp only [renQ, renP]; cases (decide (64 ≤ R) && (decide (64 ≤ k) && !(k == R))) <;> rfl
theorem renQ_none (k R : Nat) (s : Nat → AV) (m : Nat → Option Blk) : renQ k R s m none = ⟨s, m⟩ := by rfl
theorem renP_t (k R t : Nat) (z : List AV) (es : List (List AV)) (s : Nat → AV) (m : Nat → Option Blk) : renP k R t z es s m true = ⟨renSl k R s, updM (updM (renM k R m) k none) R (some (.buf t z es))⟩ := by rfl
theorem nlV_nil (d R T : Nat) (z : List AV) (s : Nat → AV) (m : Nat → Option Blk) : nlV d R T z s m .nil = nlP d R T z s m (decide (64 ≤ R) && decide (0 < z.length)) := by simp only [nlV, nlP]; cases (decide (64 ≤ R) && decide (0 < z.length)) <;> rfl
theorem nlP_t (d R T : Nat) (z : List AV) (s : Nat → AV) (m : Nat → Option Blk) : nlP d R T z s m true = ⟨upd (killS R s) d (.vw R 0 0 0), updM (killM R m) R (some (.buf T z []))⟩ := by rfl
theorem nlV_vw (d R T : Nat) (z : List AV) (s : Nat → AV) (m : Nat → Option Blk) (r a b c : Nat) : nlV d R T z s m (.vw r a b c) = ⟨s, m⟩ := by rfl
theorem nlC1_cells (r i R T : Nat) (z : List AV) (s : Nat → AV) (m : Nat → Option Blk) (cs : List AV) : nlC1 r i R T z s m (some (.cells cs)) = nlC2 r i R T z s m cs cs[i]? := by rfl
theorem nlC2_nil (r i R T : Nat) (z : List AV) (s : Nat → AV) (m : Nat → Option Blk) (cs : List AV) : nlC2 r i R T z s m cs (some .nil) = nlR r i R T z s m cs (decide (64 ≤ R) && (decide (0 < z.length) && !(r == R))) := by simp only [nlC2, nlR]; cases (decide (64 ≤ R) && (decide (0 < z.length) && !(r == R))) <;> rfl
theorem nlR_t (r i R T : Nat) (z : List AV) (s : Nat → AV) (m : Nat → Option Blk) (cs : List AV) : nlR r i R T z s m cs true = ⟨killS R s, updM (updM (killM R m) r (some (.cells ((cs.map (kill0 R)).set i (.vw R 0 0 0))))) R (some (.buf T z []))⟩ := by rfl
theorem renK_t (k R : Nat) : renK k R true = [] := by rfl
theorem renK_f (k R : Nat) : renK k R false = [.ren k R] := by rfl
theorem nlK_buf (d R T : Nat) (z : List AV) (es : List (List AV)) : nlK d R (some (.buf T z es)) = [.nls d R T z] := by rfl
theorem nlKc_buf (r i R T : Nat) (z : List AV) (es : List (List AV)) : nlKc r i R (some (.buf T z es)) = [.nlc r i R T z] := by rfl
theorem lkAs_nil  : lkAs [] [] = [] := by rfl
theorem lkAs_cons (x y : AV) (xs ys : List AV) : lkAs (x :: xs) (y :: ys) = lk0 x y ++ lkAs xs ys := by rfl
theorem lkVs_nil  : lkVs [] [] = [] := by rfl
theorem lkVs_cons (x y : AV) (xs ys : List AV) : lkVs (x :: xs) (y :: ys) = lk1 x y ++ lkVs xs ys := by rfl
theorem lkC_nil (B : Nat → Option Blk) (r i : Nat) : lkC B r i [] [] = [] := by rfl
theorem lkC_cons (B : Nat → Option Blk) (r i : Nat) (x y : AV) (xs ys : List AV) : lkC B r i (x :: xs) (y :: ys) = lkC0 B r i x y ++ lkC B r (i + 1) xs ys := by rfl
theorem lkB_cells (B : Nat → Option Blk) (r : Nat) (cs ds : List AV) : lkB B r (some (.cells cs)) (.cells ds) = lkC B r 0 cs ds := by rfl
theorem lkB_buf (B : Nat → Option Blk) (r : Nat) (x : Option Blk) (t : Nat) (z : List AV) (es : List (List AV)) : lkB B r x (.buf t z es) = [] := by cases x with | none => rfl | some b => cases b <;> rfl
theorem lkL_nil (B : Nat → Option Blk) (s : Nat → AV) : lkL B s [] = [] := by rfl
theorem lkL_cons (B : Nat → Option Blk) (s : Nat → AV) (d : Nat) (v : AV) (l : List (Nat × AV)) : lkL B s ((d, v) :: l) = lkS B d (s d) v ++ lkL B s l := by rfl
theorem lkM_nil (B m : Nat → Option Blk) : lkM B m [] = [] := by rfl
theorem lkM_cons (B m : Nat → Option Blk) (r : Nat) (b : Blk) (l : List (Nat × Blk)) : lkM B m ((r, b) :: l) = lkB B r (m r) b ++ lkM B m l := by rfl
theorem SL_ge (l : List (Nat × AV)) (b : List (Nat × Blk)) (s : Nat → AV) (m : Nat → Option Blk) : SL.ge ⟨l, b⟩ ⟨s, m⟩ = SL.ge0 ⟨l, b⟩ (applyL (lkL (lookM b) s l ++ lkM (lookM b) m b) ⟨s, m⟩) := by rfl
theorem SL_ge0 (l : List (Nat × AV)) (b : List (Nat × Blk)) (s : Nat → AV) (m : Nat → Option Blk) : SL.ge0 ⟨l, b⟩ ⟨s, m⟩ = (leL s l ∧ leM m b) := by rfl
theorem leL_nil (s : Nat → AV) : leL s [] = True := by rfl
theorem leL_cons (s : Nat → AV) (d : Nat) (v : AV) (l : List (Nat × AV)) : leL s ((d, v) :: l) = (leV1 (s d) v ∧ leL s l) := by rfl
theorem leM_nil (m : Nat → Option Blk) : leM m [] = True := by rfl
theorem leM_cons (m : Nat → Option Blk) (r : Nat) (b : Blk) (l : List (Nat × Blk)) : leM m ((r, b) :: l) = (leB (m r) b ∧ leM m l) := by rfl
theorem leB_cells (cs ds : List AV) : leB (some (.cells cs)) (.cells ds) = leAs cs ds := by rfl
theorem leB_buf (t t1 : Nat) (z z1 : List AV) (es es1 : List (List AV)) : leB (some (.buf t z es)) (.buf t1 z1 es1) = (t = t1 ∧ z = z1 ∧ es = es1) := by rfl
theorem lkR_one (v r : AV) : lkR (some [v]) r = lk1 v r := by rfl
theorem lkR_two (x y : AV) (zs ys : List AV) : lkR (some (x :: y :: zs)) (.tup ys) = lkVs (x :: y :: zs) ys := by rfl
theorem lkT_f (m : Nat → Option Blk) (cs : List AV) : lkT false m cs = [] := by rfl
theorem lkT_t (m : Nat → Option Blk) (cs : List AV) : lkT true m cs = lkB (fun _ => none) 0 (m 0) (.cells cs) := by rfl
theorem retOK_eq (rv : List RV) (r : AV) (st : Bool) (cs : List AV) (s : Nat → AV) (m : Nat → Option Blk) : retOK rv r st cs ⟨s, m⟩ = retOK0 rv r st cs (applyL (lkR (retL ⟨s, m⟩ rv) r ++ lkT st m cs) ⟨s, m⟩) := by rfl
theorem retOK_f (rv : List RV) (r : AV) (cs : List AV) (s : Nat → AV) (m : Nat → Option Blk) : retOK0 rv r false cs ⟨s, m⟩ = (rtO r (retL ⟨s, m⟩ rv) ∧ True) := by simp only [retOK0]; cases retL ⟨s, m⟩ rv <;> rfl
theorem retOK_t (rv : List RV) (r : AV) (cs : List AV) (s : Nat → AV) (m : Nat → Option Blk) : retOK0 rv r true cs ⟨s, m⟩ = (rtO r (retL ⟨s, m⟩ rv) ∧ rtM cs (m 0)) := by
  simp only [retOK0]; cases retL ⟨s, m⟩ rv <;> cases m 0 with
  | none => rfl
  | some b => cases b <;> rfl
theorem kRetX_r {ι : Type} (rv : List RV) (st : Bool) (g : ι → Prop × AV × List AV) (σ : St) : kRetX rv st g .ret σ = ∃ i, retXG rv st σ (g i) := by rfl
theorem kRetX_n {ι : Type} (rv : List RV) (st : Bool) (g : ι → Prop × AV × List AV) (σ : St) : kRetX rv st g .normal σ = ∃ i, retXG rv st σ (g i) := by rfl
theorem retXG_eq (rv : List RV) (st : Bool) (σ : St) (p : Prop) (r : AV) (cs : List AV) : retXG rv st σ (p, r, cs) = (p ∧ retX rv r st cs σ) := by rfl
theorem retX_eq (rv : List RV) (r : AV) (st : Bool) (cs : List AV) (s : Nat → AV) (m : Nat → Option Blk) : retX rv r st cs ⟨s, m⟩ = retX0 rv r st cs (applyL (lkR (retL ⟨s, m⟩ rv) r ++ lkT st m cs) ⟨s, m⟩) := by rfl
theorem retX0_eq (rv : List RV) (r : AV) (st : Bool) (cs : List AV) (s : Nat → AV) (m : Nat → Option Blk) : retX0 rv r st cs ⟨s, m⟩ = (resXO m r (retL ⟨s, m⟩ rv) ∧ resXT st cs (m 0)) := by rfl
theorem resXO_some (m : Nat → Option Blk) (r : AV) (vs : List AV) : resXO m r (some vs) = (resX m vs r ∧ (nodupN (pqK (pqR vs r)) && ((pqK (pqR vs r)).all (fun k => decide (64 ≤ k)) && (idsOK (frs2 r) && wfRes vs r))) = true) := by rfl
theorem wfRes_one (v r : AV) : wfRes [v] r = wfX1 r := by rfl
theorem wfRes_two (x y : AV) (zs : List AV) (r : AV) : wfRes (x :: y :: zs) r = wfX2 r := by rfl
theorem resX_one (m : Nat → Option Blk) (v r : AV) : resX m [v] r = leX1 m v r := by rfl
theorem resX_two (m : Nat → Option Blk) (x y : AV) (zs ys : List AV) : resX m (x :: y :: zs) (.tup ys) = leXV m (x :: y :: zs) ys := by rfl
theorem leXV_nil (m : Nat → Option Blk) : leXV m [] [] = True := by rfl
theorem leXV_cons (m : Nat → Option Blk) (x y : AV) (xs ys : List AV) : leXV m (x :: xs) (y :: ys) = (leX1 m x y ∧ leXV m xs ys) := by rfl
theorem leXs_nil (m : Nat → Option Blk) : leXs m [] [] = True := by rfl
theorem leXs_cons (m : Nat → Option Blk) (x y : AV) (xs ys : List AV) : leXs m (x :: xs) (y :: ys) = (leX0 m x y ∧ leXs m xs ys) := by rfl
theorem pqR_one (v r : AV) : pqR [v] r = pq1 v r := by rfl
theorem pqR_two (x y : AV) (zs ys : List AV) : pqR (x :: y :: zs) (.tup ys) = pqV (x :: y :: zs) ys := by rfl
theorem pqV_nil  : pqV [] [] = [] := by rfl
theorem pqV_cons (x y : AV) (xs ys : List AV) : pqV (x :: xs) (y :: ys) = pq1 x y ++ pqV xs ys := by rfl
theorem pqL_nil  : pqL [] [] = [] := by rfl
theorem pqL_cons (x y : AV) (xs ys : List AV) : pqL (x :: xs) (y :: ys) = pq0 x y ++ pqL xs ys := by rfl
theorem pqK_nil  : pqK [] = [] := by rfl
theorem pqK_some (j k : Nat) (l : List (Nat × Option Nat)) : pqK ((j, some k) :: l) = k :: pqK l := by rfl
theorem pqK_none (j : Nat) (l : List (Nat × Option Nat)) : pqK ((j, none) :: l) = pqK l := by rfl
theorem leFB_buf (t t1 : Nat) (z z1 : List AV) (es es1 : List (List AV)) : leFB (some (.buf t z es)) t1 z1 es1 = (t = t1 ∧ z = z1 ∧ es = es1) := by rfl
theorem leFC_cells (cs ds : List AV) : leFC (some (.cells cs)) ds = leAs cs ds := by rfl
theorem resXT_f (cs : List AV) (b : Option Blk) : resXT false cs b = True := by
  cases b with
  | none => exact propext (iff_true_intro rfl)
  | some b => cases b <;> first | exact propext (iff_true_intro (.inl rfl)) | exact propext (iff_true_intro rfl)
theorem resXT_t (cs ds : List AV) : resXT true cs (some (.cells ds)) = leAs ds cs := by simp [resXT]
theorem condK_nb (t e : Prop) (b : Bool) : condK t e (.nb b) = ((b = true → t) ∧ e) := by rfl
theorem vwsL_nil  : vwsL [] = [] := by rfl
theorem vwsL_cons (x : AV) (xs : List AV) : vwsL (x :: xs) = vws0 x ++ vwsL xs := by rfl
theorem vwsG_nil (σ : St) : vwsG σ [] = [] := by rfl
theorem vwsG_cons (σ : St) (i : Nat) (x : A) (ps : List (Nat × A)) : vwsG σ ((i, x) :: ps) = vws1 (ar σ x) ++ vwsG σ ps := by rfl
theorem goF_eq (Φ : Nat → Option Ctr) (rest : List RO) (K : St → Prop) (dst : Option Nat) (op : IOp) (g : Option (Nat × Bool)) (af : List Nat) (s : Nat → AV) (m : Nat → Option Blk) : goF Φ rest K dst op g af ⟨s, m⟩ = goOp Φ rest K ⟨s, m⟩ dst (evG Φ ⟨dst, op, g, af⟩ ⟨s, m⟩) := by rfl
theorem eo_store (Φ : Nat → Option Ctr) (dst : Option Nat) (n : Nat) (x v : A) (g : Option (Nat × Bool)) (af : List Nat) (rest : List RO) (σ : St) (K : St → Prop) : evOps Φ (⟨dst, .store n x v, g, af⟩ :: rest) σ K = goF Φ rest K dst (.store n x v) g af (frzL (vwsT (ar σ v) (ar σ x)) σ) := by
  cases dst <;> cases g <;> (simp only [evOps, strOf, extOf, preF, goF, goOp]; cases evG Φ _ _ <;> rfl)
theorem eo_bslice (Φ : Nat → Option Ctr) (dst : Option Nat) (n : Nat) (z : List AV) (ps : List (Nat × A)) (g : Option (Nat × Bool)) (af : List Nat) (rest : List RO) (σ : St) (K : St → Prop) : evOps Φ (⟨dst, .bslice n z ps, g, af⟩ :: rest) σ K = goF Φ rest K dst (.bslice n z ps) g af (frzL (vwsG σ ps) σ) := by
  cases dst <;> cases g <;> (simp only [evOps, strOf, extOf, preF, goF, goOp]; cases evG Φ _ _ <;> rfl)
theorem eo_bsliceO (Φ : Nat → Option Ctr) (dst : Option Nat) (e n : Nat) (z : List AV) (ps : List (Nat × A)) (g : Option (Nat × Bool)) (af : List Nat) (rest : List RO) (σ : St) (K : St → Prop) : evOps Φ (⟨dst, .bsliceO e n z ps, g, af⟩ :: rest) σ K = goF Φ rest K dst (.bsliceO e n z ps) g af (frzL (vwsG σ ps) σ) := by
  cases dst <;> cases g <;> (simp only [evOps, strOf, extOf, preF, goF, goOp]; cases evG Φ _ _ <;> rfl)
theorem eo_call (Φ : Nat → Option Ctr) (d f : Nat) (xs : List A) (af : List Nat) (rest : List RO) (σ : St) (K : St → Prop) : evOps Φ (⟨some d, .call f xs, none, af⟩ :: rest) σ K = evCl Φ d f xs af rest σ K (Φ f) := by
  simp only [evOps, strOf, extOf, evCl, preF, frzL, goOp]
  cases h : Φ f with
  | none => simp only []; cases evG Φ _ _ <;> rfl
  | some c => cases c with
    | mk st fn => simp only []; cases evG Φ _ _ <;> rfl
    | ext st ι fn => rfl
    | own T z fn => simp only []; cases evG Φ _ _ <;> rfl
theorem evCl_mk (Φ : Nat → Option Ctr) (d f : Nat) (xs : List A) (af : List Nat) (rest : List RO) (σ : St) (K : St → Prop) (st : Bool) (fn : List AV → List AV → Option (Prop × AV × List AV)) : evCl Φ d f xs af rest σ K (some (.mk st fn)) = goOp Φ rest K σ (some d) (evG Φ ⟨some d, .call f xs, none, af⟩ σ) := by rfl
theorem evCl_own (Φ : Nat → Option Ctr) (d f : Nat) (xs : List A) (af : List Nat) (rest : List RO) (σ : St) (K : St → Prop) (T : Nat) (z : List AV) (fn : List AV → Option (Prop × List (List AV))) : evCl Φ d f xs af rest σ K (some (.own T z fn)) = goOp Φ rest K σ (some d) (evG Φ ⟨some d, .call f xs, none, af⟩ σ) := by rfl
/-- What is left of a region: not looked at before the state is there. -/
def evOpsk (Φ : Nat → Option Ctr) (rest : List RO) (K : St → Prop) : St → Prop := fun σ => evOps Φ rest σ K
theorem evOpsk_at (Φ : Nat → Option Ctr) (rest : List RO) (K : St → Prop) (σ : St) : evOpsk Φ rest K σ = evOps Φ rest σ K := by rfl
def evOpsSk (Φ : Nat → Option Ctr) (rest : List RO) (K : St → Prop) : St → Prop := fun σ => evOpsS Φ rest σ K
theorem evOpsSk_at (Φ : Nat → Option Ctr) (rest : List RO) (K : St → Prop) (σ : St) : evOpsSk Φ rest K σ = evOpsS Φ rest σ K := by rfl
def evDSk (Φ : Nat → Option Ctr) (rest : List RO) (n : Nat) (K : St → Prop) : DL → St → Prop := fun D σ => evDS Φ rest n D σ K
theorem evDSk_at (Φ : Nat → Option Ctr) (rest : List RO) (n : Nat) (K : St → Prop) (D : DL) (σ : St) : evDSk Φ rest n K D σ = evDS Φ rest n D σ K := by rfl
theorem kN_at (K : Exit → St → Prop) (σ : St) : kN K σ = K .normal σ := by rfl
theorem evCl_ext (Φ : Nat → Option Ctr) (d f : Nat) (xs : List A) (af : List Nat) (rest : List RO) (σ : St) (K : St → Prop) (st : Bool) (ι : Type) (fn : List AV → List AV → Option (Prop × (ι → Prop × AV × List AV))) : evCl Φ d f xs af rest σ K (some (.ext st ι fn)) = evXV st ι fn d σ (evOpsk Φ rest K) (avs σ [] xs) := by rfl
theorem eo_call_g (Φ : Nat → Option Ctr) (dst : Option Nat) (f : Nat) (xs : List A) (g : Nat × Bool) (af : List Nat) (rest : List RO) (σ : St) (K : St → Prop) : evOps Φ (⟨dst, .call f xs, some g, af⟩ :: rest) σ K = goOp Φ rest K σ dst (evG Φ ⟨dst, .call f xs, some g, af⟩ σ) := by
  cases dst <;> (simp only [evOps, strOf, extOf, preF, frzL, goOp]; cases evG Φ _ _ <;> rfl)
theorem eo_mkstr (Φ : Nat → Option Ctr) (d : Nat) (x : A) (af : List Nat) (rest : List RO) (s : Nat → AV) (m : Nat → Option Blk) (K : St → Prop) : evOps Φ (⟨some d, .mkstr x, none, af⟩ :: rest) ⟨s, m⟩ K = mkS1 d ⟨s, m⟩ (evOpsk Φ rest K) (ar ⟨s, m⟩ x) := by rfl
theorem mkS1_vw (d : Nat) (s : Nat → AV) (m : Nat → Option Blk) (K : St → Prop) (r a b c : Nat) : mkS1 d ⟨s, m⟩ K (.vw r a b c) = mkS2 d r ⟨s, m⟩ K (m r) := by rfl
theorem mkS2_buf (d k : Nat) (s : Nat → AV) (m : Nat → Option Blk) (K : St → Prop) (t : Nat) (z : List AV) (es : List (List AV)) : mkS2 d k ⟨s, m⟩ K (some (.buf t z es)) = (decide (64 ≤ k) = true ∧ es ≠ [] ∧ K ⟨upd (frzSl k z es s) d (.lst z es), updM (frzM k z es m) k none⟩) := by
  simp only [mkS2]; cases decide (64 ≤ k) <;> simp
theorem eo_mov (Φ : Nat → Option Ctr) (dst : Option Nat) (x : A) (g : Option (Nat × Bool)) (af : List Nat) (rest : List RO) (σ : St) (K : St → Prop) : evOps Φ (⟨dst, .mov x, g, af⟩ :: rest) σ K = goOp Φ rest K σ dst (evG Φ ⟨dst, .mov x, g, af⟩ σ) := by
  cases dst <;> cases g <;> (simp only [evOps, strOf, extOf, preF, frzL, goOp]; cases evG Φ _ _ <;> rfl)
theorem eo_pick (Φ : Nat → Option Ctr) (dst : Option Nat) (c a b : A) (g : Option (Nat × Bool)) (af : List Nat) (rest : List RO) (σ : St) (K : St → Prop) : evOps Φ (⟨dst, .pick c a b, g, af⟩ :: rest) σ K = goOp Φ rest K σ dst (evG Φ ⟨dst, .pick c a b, g, af⟩ σ) := by
  cases dst <;> cases g <;> (simp only [evOps, strOf, extOf, preF, frzL, goOp]; cases evG Φ _ _ <;> rfl)
theorem eo_arith (Φ : Nat → Option Ctr) (dst : Option Nat) (op : BinOp) (x y : A) (g : Option (Nat × Bool)) (af : List Nat) (rest : List RO) (σ : St) (K : St → Prop) : evOps Φ (⟨dst, .arith op x y, g, af⟩ :: rest) σ K = goOp Φ rest K σ dst (evG Φ ⟨dst, .arith op x y, g, af⟩ σ) := by
  cases dst <;> cases g <;> (simp only [evOps, strOf, extOf, preF, frzL, goOp]; cases evG Φ _ _ <;> rfl)
theorem eo_cmp (Φ : Nat → Option Ctr) (dst : Option Nat) (op : BinOp) (ty : Nat) (x y : A) (g : Option (Nat × Bool)) (af : List Nat) (rest : List RO) (σ : St) (K : St → Prop) : evOps Φ (⟨dst, .cmp op ty x y, g, af⟩ :: rest) σ K = goOp Φ rest K σ dst (evG Φ ⟨dst, .cmp op ty x y, g, af⟩ σ) := by
  cases dst <;> cases g <;> (simp only [evOps, strOf, extOf, preF, frzL, goOp]; cases evG Φ _ _ <;> rfl)
theorem eo_eqa (Φ : Nat → Option Ctr) (dst : Option Nat) (n : Bool) (sh : List Nat) (x y : A) (g : Option (Nat × Bool)) (af : List Nat) (rest : List RO) (σ : St) (K : St → Prop) : evOps Φ (⟨dst, .eqa n sh x y, g, af⟩ :: rest) σ K = goOp Φ rest K σ dst (evG Φ ⟨dst, .eqa n sh x y, g, af⟩ σ) := by
  cases dst <;> cases g <;> (simp only [evOps, strOf, extOf, preF, frzL, goOp]; cases evG Φ _ _ <;> rfl)
theorem eo_not (Φ : Nat → Option Ctr) (dst : Option Nat) (x : A) (g : Option (Nat × Bool)) (af : List Nat) (rest : List RO) (σ : St) (K : St → Prop) : evOps Φ (⟨dst, .not x, g, af⟩ :: rest) σ K = goOp Φ rest K σ dst (evG Φ ⟨dst, .not x, g, af⟩ σ) := by
  cases dst <;> cases g <;> (simp only [evOps, strOf, extOf, preF, frzL, goOp]; cases evG Φ _ _ <;> rfl)
theorem eo_neg (Φ : Nat → Option Ctr) (dst : Option Nat) (x : A) (g : Option (Nat × Bool)) (af : List Nat) (rest : List RO) (σ : St) (K : St → Prop) : evOps Φ (⟨dst, .neg x, g, af⟩ :: rest) σ K = goOp Φ rest K σ dst (evG Φ ⟨dst, .neg x, g, af⟩ σ) := by
  cases dst <;> cases g <;> (simp only [evOps, strOf, extOf, preF, frzL, goOp]; cases evG Φ _ _ <;> rfl)
theorem eo_conv (Φ : Nat → Option Ctr) (dst : Option Nat) (k : IntKind) (x : A) (g : Option (Nat × Bool)) (af : List Nat) (rest : List RO) (σ : St) (K : St → Prop) : evOps Φ (⟨dst, .conv k x, g, af⟩ :: rest) σ K = goOp Φ rest K σ dst (evG Φ ⟨dst, .conv k x, g, af⟩ σ) := by
  cases dst <;> cases g <;> (simp only [evOps, strOf, extOf, preF, frzL, goOp]; cases evG Φ _ _ <;> rfl)
theorem eo_b2s (Φ : Nat → Option Ctr) (dst : Option Nat) (x : A) (g : Option (Nat × Bool)) (af : List Nat) (rest : List RO) (σ : St) (K : St → Prop) : evOps Φ (⟨dst, .b2s x, g, af⟩ :: rest) σ K = goOp Φ rest K σ dst (evG Φ ⟨dst, .b2s x, g, af⟩ σ) := by
  cases dst <;> cases g <;> (simp only [evOps, strOf, extOf, preF, frzL, goOp]; cases evG Φ _ _ <;> rfl)
theorem eo_len (Φ : Nat → Option Ctr) (dst : Option Nat) (ty : Nat) (x : A) (g : Option (Nat × Bool)) (af : List Nat) (rest : List RO) (σ : St) (K : St → Prop) : evOps Φ (⟨dst, .len ty x, g, af⟩ :: rest) σ K = goOp Φ rest K σ dst (evG Φ ⟨dst, .len ty x, g, af⟩ σ) := by
  cases dst <;> cases g <;> (simp only [evOps, strOf, extOf, preF, frzL, goOp]; cases evG Φ _ _ <;> rfl)
theorem eo_minmax (Φ : Nat → Option Ctr) (dst : Option Nat) (mx : Bool) (xs : List A) (g : Option (Nat × Bool)) (af : List Nat) (rest : List RO) (σ : St) (K : St → Prop) : evOps Φ (⟨dst, .minmax mx xs, g, af⟩ :: rest) σ K = goOp Φ rest K σ dst (evG Φ ⟨dst, .minmax mx xs, g, af⟩ σ) := by
  cases dst <;> cases g <;> (simp only [evOps, strOf, extOf, preF, frzL, goOp]; cases evG Φ _ _ <;> rfl)
theorem eo_faddr (Φ : Nat → Option Ctr) (dst : Option Nat) (o : Nat) (x : A) (g : Option (Nat × Bool)) (af : List Nat) (rest : List RO) (σ : St) (K : St → Prop) : evOps Φ (⟨dst, .faddr o x, g, af⟩ :: rest) σ K = goOp Φ rest K σ dst (evG Φ ⟨dst, .faddr o x, g, af⟩ σ) := by
  cases dst <;> cases g <;> (simp only [evOps, strOf, extOf, preF, frzL, goOp]; cases evG Φ _ _ <;> rfl)
theorem eo_fld (Φ : Nat → Option Ctr) (dst : Option Nat) (o n : Nat) (ag : Bool) (x : A) (g : Option (Nat × Bool)) (af : List Nat) (rest : List RO) (σ : St) (K : St → Prop) : evOps Φ (⟨dst, .fld o n ag x, g, af⟩ :: rest) σ K = goOp Φ rest K σ dst (evG Φ ⟨dst, .fld o n ag x, g, af⟩ σ) := by
  cases dst <;> cases g <;> (simp only [evOps, strOf, extOf, preF, frzL, goOp]; cases evG Φ _ _ <;> rfl)
theorem eo_iaddrS (Φ : Nat → Option Ctr) (dst : Option Nat) (z : List AV) (x i : A) (g : Option (Nat × Bool)) (af : List Nat) (rest : List RO) (σ : St) (K : St → Prop) : evOps Φ (⟨dst, .iaddrS z x i, g, af⟩ :: rest) σ K = goOp Φ rest K σ dst (evG Φ ⟨dst, .iaddrS z x i, g, af⟩ σ) := by
  cases dst <;> cases g <;> (simp only [evOps, strOf, extOf, preF, frzL, goOp]; cases evG Φ _ _ <;> rfl)
theorem eo_iaddrA (Φ : Nat → Option Ctr) (dst : Option Nat) (n z : Nat) (x i : A) (g : Option (Nat × Bool)) (af : List Nat) (rest : List RO) (σ : St) (K : St → Prop) : evOps Φ (⟨dst, .iaddrA n z x i, g, af⟩ :: rest) σ K = goOp Φ rest K σ dst (evG Φ ⟨dst, .iaddrA n z x i, g, af⟩ σ) := by
  cases dst <;> cases g <;> (simp only [evOps, strOf, extOf, preF, frzL, goOp]; cases evG Φ _ _ <;> rfl)
theorem eo_load (Φ : Nat → Option Ctr) (dst : Option Nat) (n : Nat) (ag : Bool) (x : A) (g : Option (Nat × Bool)) (af : List Nat) (rest : List RO) (σ : St) (K : St → Prop) : evOps Φ (⟨dst, .load n ag x, g, af⟩ :: rest) σ K = goOp Φ rest K σ dst (evG Φ ⟨dst, .load n ag x, g, af⟩ σ) := by
  cases dst <;> cases g <;> (simp only [evOps, strOf, extOf, preF, frzL, goOp]; cases evG Φ _ _ <;> rfl)
theorem eo_alloc (Φ : Nat → Option Ctr) (dst : Option Nat) (z : List AV) (g : Option (Nat × Bool)) (af : List Nat) (rest : List RO) (σ : St) (K : St → Prop) : evOps Φ (⟨dst, .alloc z, g, af⟩ :: rest) σ K = goOp Φ rest K σ dst (evG Φ ⟨dst, .alloc z, g, af⟩ σ) := by
  cases dst <;> cases g <;> (simp only [evOps, strOf, extOf, preF, frzL, goOp]; cases evG Φ _ _ <;> rfl)
theorem eo_box (Φ : Nat → Option Ctr) (dst : Option Nat) (n : Nat) (x : A) (g : Option (Nat × Bool)) (af : List Nat) (rest : List RO) (σ : St) (K : St → Prop) : evOps Φ (⟨dst, .box n x, g, af⟩ :: rest) σ K = goOp Φ rest K σ dst (evG Φ ⟨dst, .box n x, g, af⟩ σ) := by
  cases dst <;> cases g <;> (simp only [evOps, strOf, extOf, preF, frzL, goOp]; cases evG Φ _ _ <;> rfl)
theorem eo_build (Φ : Nat → Option Ctr) (dst : Option Nat) (z : List AV) (ps : List (Nat × Nat × A)) (g : Option (Nat × Bool)) (af : List Nat) (rest : List RO) (σ : St) (K : St → Prop) : evOps Φ (⟨dst, .build z ps, g, af⟩ :: rest) σ K = goOp Φ rest K σ dst (evG Φ ⟨dst, .build z ps, g, af⟩ σ) := by
  cases dst <;> cases g <;> (simp only [evOps, strOf, extOf, preF, frzL, goOp]; cases evG Φ _ _ <;> rfl)
theorem eo_extract (Φ : Nat → Option Ctr) (dst : Option Nat) (i : Nat) (x : A) (g : Option (Nat × Bool)) (af : List Nat) (rest : List RO) (σ : St) (K : St → Prop) : evOps Φ (⟨dst, .extract i x, g, af⟩ :: rest) σ K = goOp Φ rest K σ dst (evG Φ ⟨dst, .extract i x, g, af⟩ σ) := by
  cases dst <;> cases g <;> (simp only [evOps, strOf, extOf, preF, frzL, goOp]; cases evG Φ _ _ <;> rfl)
theorem eo_nilchk (Φ : Nat → Option Ctr) (dst : Option Nat) (x : A) (g : Option (Nat × Bool)) (af : List Nat) (rest : List RO) (σ : St) (K : St → Prop) : evOps Φ (⟨dst, .nilchk x, g, af⟩ :: rest) σ K = goOp Φ rest K σ dst (evG Φ ⟨dst, .nilchk x, g, af⟩ σ) := by
  cases dst <;> cases g <;> (simp only [evOps, strOf, extOf, preF, frzL, goOp]; cases evG Φ _ _ <;> rfl)
theorem eo_append (Φ : Nat → Option Ctr) (dst : Option Nat) (e b : Nat) (z : List AV) (x y : A) (g : Option (Nat × Bool)) (af : List Nat) (rest : List RO) (σ : St) (K : St → Prop) : evOps Φ (⟨dst, .append e b z x y, g, af⟩ :: rest) σ K = goOp Φ rest K σ dst (evG Φ ⟨dst, .append e b z x y, g, af⟩ σ) := by
  cases dst <;> cases g <;> (simp only [evOps, strOf, extOf, preF, frzL, goOp]; cases evG Φ _ _ <;> rfl)
theorem eo_appZ (Φ : Nat → Option Ctr) (dst : Option Nat) (e b : Nat) (z : List AV) (x y : A) (g : Option (Nat × Bool)) (af : List Nat) (rest : List RO) (σ : St) (K : St → Prop) : evOps Φ (⟨dst, .appZ e b z x y, g, af⟩ :: rest) σ K = goOp Φ rest K σ dst (evG Φ ⟨dst, .appZ e b z x y, g, af⟩ σ) := by
  cases dst <;> cases g <;> (simp only [evOps, strOf, extOf, preF, frzL, goOp]; cases evG Φ _ _ <;> rfl)
theorem eo_slice (Φ : Nat → Option Ctr) (dst : Option Nat) (z : Nat) (x : A) (l h : Option A) (g : Option (Nat × Bool)) (af : List Nat) (rest : List RO) (σ : St) (K : St → Prop) : evOps Φ (⟨dst, .slice z x l h, g, af⟩ :: rest) σ K = goOp Φ rest K σ dst (evG Φ ⟨dst, .slice z x l h, g, af⟩ σ) := by
  cases dst <;> cases g <;> (simp only [evOps, strOf, extOf, preF, frzL, goOp]; cases evG Φ _ _ <;> rfl)
theorem eo_mkslice (Φ : Nat → Option Ctr) (dst : Option Nat) (e b : Nat) (z : List AV) (l c : A) (g : Option (Nat × Bool)) (af : List Nat) (rest : List RO) (σ : St) (K : St → Prop) : evOps Φ (⟨dst, .mkslice e b z l c, g, af⟩ :: rest) σ K = goOp Φ rest K σ dst (evG Φ ⟨dst, .mkslice e b z l c, g, af⟩ σ) := by
  cases dst <;> cases g <;> (simp only [evOps, strOf, extOf, preF, frzL, goOp]; cases evG Φ _ _ <;> rfl)
theorem eo_copy (Φ : Nat → Option Ctr) (dst : Option Nat) (sz : Nat) (x y : A) (g : Option (Nat × Bool)) (af : List Nat) (rest : List RO) (σ : St) (K : St → Prop) : evOps Φ (⟨dst, .copy sz x y, g, af⟩ :: rest) σ K = goOp Φ rest K σ dst (evG Φ ⟨dst, .copy sz x y, g, af⟩ σ) := by
  cases dst <;> cases g <;> (simp only [evOps, strOf, extOf, preF, frzL, goOp]; cases evG Φ _ _ <;> rfl)
theorem eo_mkF (Φ : Nat → Option Ctr) (dst : Option Nat) (b : Nat) (z : List AV) (l c : A) (g : Option (Nat × Bool)) (af : List Nat) (rest : List RO) (σ : St) (K : St → Prop) : evOps Φ (⟨dst, .mkF b z l c, g, af⟩ :: rest) σ K = goOp Φ rest K σ dst (evG Φ ⟨dst, .mkF b z l c, g, af⟩ σ) := by
  cases dst <;> cases g <;> (simp only [evOps, strOf, extOf, preF, frzL, goOp]; cases evG Φ _ _ <;> rfl)
theorem eo_s2b (Φ : Nat → Option Ctr) (dst : Option Nat) (x : A) (g : Option (Nat × Bool)) (af : List Nat) (rest : List RO) (σ : St) (K : St → Prop) : evOps Φ (⟨dst, .s2b x, g, af⟩ :: rest) σ K = goOp Φ rest K σ dst (evG Φ ⟨dst, .s2b x, g, af⟩ σ) := by
  cases dst <;> cases g <;> (simp only [evOps, strOf, extOf, preF, frzL, goOp]; cases evG Φ _ _ <;> rfl)
theorem eo_idxS (Φ : Nat → Option Ctr) (dst : Option Nat) (x i : A) (g : Option (Nat × Bool)) (af : List Nat) (rest : List RO) (σ : St) (K : St → Prop) : evOps Φ (⟨dst, .idxS x i, g, af⟩ :: rest) σ K = goOp Φ rest K σ dst (evG Φ ⟨dst, .idxS x i, g, af⟩ σ) := by
  cases dst <;> cases g <;> (simp only [evOps, strOf, extOf, preF, frzL, goOp]; cases evG Φ _ _ <;> rfl)
theorem eo_idxV (Φ : Nat → Option Ctr) (dst : Option Nat) (n s : Nat) (ag : Bool) (x i : A) (g : Option (Nat × Bool)) (af : List Nat) (rest : List RO) (σ : St) (K : St → Prop) : evOps Φ (⟨dst, .idxV n s ag x i, g, af⟩ :: rest) σ K = goOp Φ rest K σ dst (evG Φ ⟨dst, .idxV n s ag x i, g, af⟩ σ) := by
  cases dst <;> cases g <;> (simp only [evOps, strOf, extOf, preF, frzL, goOp]; cases evG Φ _ _ <;> rfl)
theorem eo_callv (Φ : Nat → Option Ctr) (dst : Option Nat) (fs : List Nat) (x : A) (xs : List A) (g : Option (Nat × Bool)) (af : List Nat) (rest : List RO) (σ : St) (K : St → Prop) : evOps Φ (⟨dst, .callv fs x xs, g, af⟩ :: rest) σ K = goOp Φ rest K σ dst (evG Φ ⟨dst, .callv fs x xs, g, af⟩ σ) := by
  cases dst <;> cases g <;> (simp only [evOps, strOf, extOf, preF, frzL, goOp]; cases evG Φ _ _ <;> rfl)
theorem eo_eqnil (Φ : Nat → Option Ctr) (dst : Option Nat) (n : Bool) (x : A) (g : Option (Nat × Bool)) (af : List Nat) (rest : List RO) (σ : St) (K : St → Prop) : evOps Φ (⟨dst, .eqnil n x, g, af⟩ :: rest) σ K = goOp Φ rest K σ dst (evG Φ ⟨dst, .eqnil n x, g, af⟩ σ) := by
  cases dst <;> cases g <;> (simp only [evOps, strOf, extOf, preF, frzL, goOp]; cases evG Φ _ _ <;> rfl)
theorem eo_shl (Φ : Nat → Option Ctr) (dst : Option Nat) (n : Nat) (x : A) (g : Option (Nat × Bool)) (af : List Nat) (rest : List RO) (σ : St) (K : St → Prop) : evOps Φ (⟨dst, .shl n x, g, af⟩ :: rest) σ K = goOp Φ rest K σ dst (evG Φ ⟨dst, .shl n x, g, af⟩ σ) := by
  cases dst <;> cases g <;> (simp only [evOps, strOf, extOf, preF, frzL, goOp]; cases evG Φ _ _ <;> rfl)
theorem eo_shr (Φ : Nat → Option Ctr) (dst : Option Nat) (n : Nat) (x : A) (g : Option (Nat × Bool)) (af : List Nat) (rest : List RO) (σ : St) (K : St → Prop) : evOps Φ (⟨dst, .shr n x, g, af⟩ :: rest) σ K = goOp Φ rest K σ dst (evG Φ ⟨dst, .shr n x, g, af⟩ σ) := by
  cases dst <;> cases g <;> (simp only [evOps, strOf, extOf, preF, frzL, goOp]; cases evG Φ _ _ <;> rfl)
theorem ev_bsliceO (Φ : Nat → Option Ctr) (e n : Nat) (z : List AV) (ps : List (Nat × A)) (d : Nat) (p : List (Nat × Bool)) (σ : St) : evOp Φ (.bsliceO e n z ps) d p σ = blO2 d e z (fillS σ p z.length (List.replicate n z) ps) := by
  simp only [evOp, blO2]; cases fillS σ p z.length (List.replicate n z) ps <;> rfl
theorem ev_eqnil (Φ : Nat → Option Ctr) (ng : Bool) (x : A) (d : Nat) (p : List (Nat × Bool)) (σ : St) : evOp Φ (.eqnil ng x) d p σ = bind1 (av σ p x) (nilR σ.m ng) := by rfl
theorem ev_shl (Φ : Nat → Option Ctr) (n : Nat) (x : A) (d : Nat) (p : List (Nat × Bool)) (σ : St) : evOp Φ (.shl n x) d p σ = bind1 (av σ p x) (shR true n) := by rfl
theorem ev_shr (Φ : Nat → Option Ctr) (n : Nat) (x : A) (d : Nat) (p : List (Nat × Bool)) (σ : St) : evOp Φ (.shr n x) d p σ = bind1 (av σ p x) (shR false n) := by rfl
theorem ev_b2s (Φ : Nat → Option Ctr) (x : A) (d : Nat) (p : List (Nat × Bool)) (σ : St) : evOp Φ (.b2s x) d p σ = bind1 (av σ p x) (b2sR σ.m) := by rfl
theorem ev_s2b (Φ : Nat → Option Ctr) (x : A) (d : Nat) (p : List (Nat × Bool)) (σ : St) : evOp Φ (.s2b x) d p σ = bind1 (av σ p x) s2bR := by rfl
theorem ev_idxS (Φ : Nat → Option Ctr) (x i : A) (d : Nat) (p : List (Nat × Bool)) (σ : St) : evOp Φ (.idxS x i) d p σ = bind2 (av σ p x) (av σ p i) idxSR := by rfl
theorem ev_idxV (Φ : Nat → Option Ctr) (n s : Nat) (ag : Bool) (x i : A) (d : Nat) (p : List (Nat × Bool)) (σ : St) : evOp Φ (.idxV n s ag x i) d p σ = iaV n s ag i (av σ p x) := by
  simp only [evOp]; cases av σ p x <;> rfl
theorem ev_slice (Φ : Nat → Option Ctr) (z : Nat) (x : A) (l h : Option A) (d : Nat) (p : List (Nat × Bool)) (σ : St) : evOp Φ (.slice z x l h) d p σ = sliceQ σ.m z (av σ p x) (boundA σ p l) (boundA σ p h) := by rfl
theorem ev_mkslice (Φ : Nat → Option Ctr) (e b : Nat) (z : List AV) (l c : A) (d : Nat) (p : List (Nat × Bool)) (σ : St) : evOp Φ (.mkslice e b z l c) d p σ = bind2 (av σ p l) (av σ p c) (mkR e b z d) := by rfl
theorem ev_mkF (Φ : Nat → Option Ctr) (b : Nat) (z : List AV) (l c : A) (d : Nat) (p : List (Nat × Bool)) (σ : St) : evOp Φ (.mkF b z l c) d p σ = bind2 (av σ p l) (av σ p c) (mkFR b z) := by rfl
theorem ev_fld (Φ : Nat → Option Ctr) (o n : Nat) (ag : Bool) (x : A) (d : Nat) (p : List (Nat × Bool)) (σ : St) : evOp Φ (.fld o n ag x) d p σ = bind1 (av σ p x) (fldR o n ag) := by rfl
theorem ev_callv (Φ : Nat → Option Ctr) (fs : List Nat) (x : A) (xs : List A) (d : Nat) (p : List (Nat × Bool)) (σ : St) : evOp Φ (.callv fs x xs) d p σ = clV Φ σ.m fs (av σ p x) (avs σ p xs) := by
  simp only [evOp, clV]; cases av σ p x with
  | none => rfl
  | some v => cases v <;> rfl
theorem blO2_some (d e : Nat) (z : List AV) (es : List (List AV)) : blO2 d e z (some es) = some ⟨[], [], .vw (64 * d + 64) 0 0 0, [], some (64 * d + 64, .buf e z es), []⟩ := by rfl
theorem iaV_some (n s : Nat) (ag : Bool) (i : A) (v : AV) : iaV n s ag i (some v) = idxVR n s ag v i := by rfl
theorem idxVR_c (n s : Nat) (ag : Bool) (cs : List AV) (k : IntKind) (j : Int) : idxVR n s ag (.agg cs) (.c (.int k j)) = ivR n j (valOf ag s cs (j.toNat * s)) := by simp only [idxVR, ivR]; cases valOf ag s cs (j.toNat * s) <;> rfl
theorem ivR_some (n : Nat) (j : Int) (v : AV) : ivR n j (some v) = some ⟨[0 ≤ j ∧ j < n], [], v, [], none, []⟩ := by rfl
theorem clV_some (Φ : Nat → Option Ctr) (m : Nat → Option Blk) (fs : List Nat) (f : Nat) (vs : List AV) : clV Φ m fs (some (.fn f)) (some vs) = clW Φ m f vs (fs.contains f) := by simp only [clV, clW]
theorem clW_t (Φ : Nat → Option Ctr) (m : Nat → Option Blk) (f : Nat) (vs : List AV) : clW Φ m f vs true = callR m (Φ f) vs := by rfl
theorem nil_nil (m : Nat → Option Blk) (ng : Bool) : nilR m ng .nil = some ⟨[], [], .bool !ng, [], none, []⟩ := by rfl
theorem nil_lst (m : Nat → Option Blk) (z : List AV) (es : List (List AV)) : nilR m false (.lst z es) = some ⟨[], [], .nb es.isEmpty, [], none, []⟩ := by rfl
theorem nil_vw (m : Nat → Option Blk) (ng : Bool) (r a b c : Nat) : nilR m ng (.vw r a b c) = nilV ng r (m r) := by rfl
theorem nilV_buf (r t : Nat) (z : List AV) (es : List (List AV)) : nilV false r (some (.buf t z es)) = some ⟨[], [], .nb es.isEmpty, [], none, [r]⟩ := by rfl
theorem shl_int (n : Nat) (k : IntKind) (a : Int) : shR true n (.int k a) = shQ (.int k (k.wrap (a * 2 ^ n))) (decide (n ≤ k.bits)) := by simp only [shR, shQ]; cases decide (n ≤ k.bits) <;> rfl
theorem shr_int (n : Nat) (k : IntKind) (a : Int) : shR false n (.int k a) = shQ (.int k (a.fdiv (2 ^ n))) (decide (n ≤ k.bits)) := by simp only [shR, shQ]; cases decide (n ≤ k.bits) <;> rfl
theorem shQ_t (v : AV) : shQ v true = some ⟨[], [], v, [], none, []⟩ := by rfl
theorem b2s_nil (m : Nat → Option Blk) : b2sR m .nil = some ⟨[], [], .str [], [], none, []⟩ := by rfl
theorem b2s_lst (m : Nat → Option Blk) (z : AV) (es : List (List AV)) : b2sR m (.lst [z] es) = some ⟨[ByteE es], [], .str (bytesOf es), [], none, []⟩ := by rfl
theorem b2s_vw (m : Nat → Option Blk) (r a b c : Nat) : b2sR m (.vw r a b c) = b2sB r (m r) := by rfl
theorem b2sB_buf (r t : Nat) (z : AV) (es : List (List AV)) : b2sB r (some (.buf t [z] es)) = some ⟨[ByteE es], [], .str (bytesOf es), [], none, [r]⟩ := by rfl
theorem b2s_sv (m : Nat → Option Blk) (r a b c : Nat) : b2sR m (.sv r a b c) = b2sP r a b c (m r) := by rfl
theorem b2sP_buf (r lo hi t : Nat) (z : AV) (es : List (List AV)) : b2sP r 1 lo hi (some (.buf t [z] es)) = some ⟨[ByteE ((es.drop lo).take (hi - lo))], [], .str (bytesOf ((es.drop lo).take (hi - lo))), [], none, [r]⟩ := by rfl
theorem s2b_str (s : List UInt8) : s2bR (.str s) = some ⟨[s.length ≤ 9223372036854775807], [], .lst [.int .u8 0] (bytesE s), [], none, []⟩ := by rfl
theorem idxS_str (s : List UInt8) (k : IntKind) (n : Int) : idxSR (.str s) (.int k n) = some ⟨[0 ≤ n ∧ n < s.length], [], .int .u8 ((s.getD n.toNat 0).toNat : Int), [], none, []⟩ := by rfl
theorem boundA_none (σ : St) (p : List (Nat × Bool)) : boundA σ p none = some none := by rfl
theorem boundA_some (σ : St) (p : List (Nat × Bool)) (x : A) : boundA σ p (some x) = optS (av σ p x) := by simp only [boundA]; cases av σ p x <;> rfl
theorem optS_some (v : AV) : optS (some v) = some (some v) := by rfl
theorem sliceO_some (m : Nat → Option Blk) (sz : Nat) (x : AV) (lo hi : Option AV) : sliceO m sz (some x) (some lo) (some hi) = sliceR m sz x lo hi := by rfl
theorem slice_lst (m : Nat → Option Blk) (sz : Nat) (z : List AV) (es : List (List AV)) (lo hi : Option AV) : sliceR m sz (.lst z es) lo hi = slL z es (loOf lo) (hiOf es.length hi) (z.length == sz) := by rfl
theorem slL_some (z : List AV) (es : List (List AV)) (l h : Int) : slL z es (some l) (some h) true = some ⟨[0 ≤ l ∧ l ≤ h ∧ h ≤ es.length], [], .lst z ((es.drop l.toNat).take (h.toNat - l.toNat)), [], none, []⟩ := by rfl
theorem slice_nil (m : Nat → Option Blk) (sz : Nat) (lo hi : Option AV) : sliceR m sz .nil lo hi = slN (loOf lo) (hiOf 0 hi) := by rfl
theorem slN_some (l h : Int) : slN (some l) (some h) = some ⟨[l = 0 ∧ h = 0], [], .nil, [], none, []⟩ := by rfl
theorem slice_vw (m : Nat → Option Blk) (sz : Nat) (r a b c : Nat) (lo hi : Option AV) : sliceR m sz (.vw r a b c) lo hi = slB r sz lo hi (m r) := by rfl
theorem slB_buf (r sz : Nat) (lo hi : Option AV) (t : Nat) (z : List AV) (es : List (List AV)) : slB r sz lo hi (some (.buf t z es)) = slV r sz es (loOf lo) (hiOf es.length hi) (z.length == sz) := by rfl
theorem slV_some (r sz : Nat) (es : List (List AV)) (l h : Int) : slV r sz es (some l) (some h) true = some ⟨[0 ≤ l ∧ l ≤ h ∧ h ≤ es.length], [], .sv r sz l.toNat h.toNat, [], none, [r]⟩ := by rfl
theorem slice_sv (m : Nat → Option Blk) (sz : Nat) (r s1 a b : Nat) (lo hi : Option AV) : sliceR m sz (.sv r s1 a b) lo hi = slX m r sz a b lo hi (s1 == sz) := by simp only [sliceR, slX]; cases (s1 == sz) <;> rfl
theorem slX_t (m : Nat → Option Blk) (r sz a b : Nat) (lo hi : Option AV) : slX m r sz a b lo hi true = slP r sz a b lo hi (m r) := by rfl
theorem slP_buf (r sz a b : Nat) (lo hi : Option AV) (t : Nat) (z : List AV) (es : List (List AV)) : slP r sz a b lo hi (some (.buf t z es)) = slU r sz a b (loOf lo) (hiOf (b - a) hi) (z.length == sz) := by rfl
theorem slU_some (r sz a b : Nat) (l h : Int) : slU r sz a b (some l) (some h) true = some ⟨[0 ≤ l ∧ l ≤ h ∧ h ≤ ((b - a : Nat) : Int)], [], .sv r sz (a + l.toNat) (a + h.toNat), [], none, [r]⟩ := by rfl
theorem loOf_none  : loOf none = some 0 := by rfl
theorem loOf_int (k : IntKind) (n : Int) : loOf (some (.int k n)) = some n := by rfl
theorem hiOf_none (l : Nat) : hiOf l none = some (l : Int) := by rfl
theorem hiOf_int (l : Nat) (k : IntKind) (n : Int) : hiOf l (some (.int k n)) = some n := by rfl
theorem mk_int (e b : Nat) (z : List AV) (d : Nat) (k k1 : IntKind) (l c : Int) : mkR e b z d (.int k l) (.int k1 c) = some ⟨[0 ≤ l ∧ l ≤ c ∧ (b : Int) * c ≤ 281474976710656 ∧ c ≤ 9223372036854775807], [], .vw (64 * d + 64) 0 0 0, [], some (64 * d + 64, .buf e z (List.replicate l.toNat z)), []⟩ := by rfl
theorem mkF_int (b : Nat) (z : List AV) (k k1 : IntKind) (l c : Int) : mkFR b z (.int k l) (.int k1 c) = some ⟨[0 ≤ l ∧ l ≤ c ∧ (b : Int) * c ≤ 281474976710656 ∧ c ≤ 9223372036854775807], [], .lst z (List.replicate l.toNat z), [], none, []⟩ := by rfl
theorem fldR_agg (o n : Nat) (ag : Bool) (cs : List AV) : fldR o n ag (.agg cs) = ldV [] (valOf ag n cs o) := by simp only [fldR]; cases valOf ag n cs o <;> rfl
theorem iaddrS_lst (m : Nat → Option Blk) (zero z : List AV) (es : List (List AV)) (k : IntKind) (n : Int) : iaddrSM m zero (.lst z es) (.int k n) = iasB zero es n (z.length == zero.length) := by
  simp only [iaddrSM, iaddrSR]; by_cases h : z.length = zero.length
  · rw [if_pos h, beq_iff_eq.2 h]; rfl
  · rw [if_neg h, beq_eq_false_iff_ne.2 h]; rfl
theorem iaddrS_vw (m : Nat → Option Blk) (zero : List AV) (r a b c : Nat) (k : IntKind) (n : Int) : iaddrSM m zero (.vw r a b c) (.int k n) = iasV zero r n (m r) := by rfl
theorem iasV_buf (zero : List AV) (r : Nat) (n : Int) (t : Nat) (z : List AV) (es : List (List AV)) : iasV zero r n (some (.buf t z es)) = iasW zero r n es (z.length == zero.length) := by simp only [iasV, iasW]; cases (z.length == zero.length) <;> rfl
theorem iasW_t (zero : List AV) (r : Nat) (n : Int) (es : List (List AV)) : iasW zero r n es true = some ⟨[0 ≤ n ∧ n < es.length], [es.length ≤ 9223372036854775807], .bp r zero.length n.toNat 0, [], none, [r]⟩ := by rfl
theorem iaddrS_sv (m : Nat → Option Blk) (zero : List AV) (r a b c : Nat) (k : IntKind) (n : Int) : iaddrSM m zero (.sv r a b c) (.int k n) = iasP zero r a b c n (m r) := by rfl
theorem iasP_buf (zero : List AV) (r sz lo hi : Nat) (n : Int) (t : Nat) (z : List AV) (es : List (List AV)) : iasP zero r sz lo hi n (some (.buf t z es)) = iasX zero r lo hi n es (z.length == zero.length && z.length == sz) := by simp only [iasP, iasX]; cases (z.length == zero.length && z.length == sz) <;> rfl
theorem iasX_t (zero : List AV) (r lo hi : Nat) (n : Int) (es : List (List AV)) : iasX zero r lo hi n es true = some ⟨[0 ≤ n ∧ n < ((hi - lo : Nat) : Int) ∧ lo ≤ hi ∧ hi ≤ es.length], [], .bp r zero.length (lo + n.toNat) 0, [], none, [r]⟩ := by rfl
theorem faddr_bp (off r s i o : Nat) : faddrR off (.bp r s i o) = some ⟨[], [], .bp r s i (o + off), [], none, []⟩ := by rfl
theorem load_bp (m : Nat → Option Blk) (n : Nat) (ag : Bool) (r s i o : Nat) : loadR m n ag (.bp r s i o) = ldP n ag r s i o (m r) := by rfl
theorem ldP_buf (n : Nat) (ag : Bool) (r s i o t : Nat) (z : List AV) (es : List (List AV)) : ldP n ag r s i o (some (.buf t z es)) = ldQ r i es (z.length == s) (valOf ag n (getE z es i) o) := by simp only [ldP, ldQ]
theorem ldQ_t (r i : Nat) (es : List (List AV)) (v : AV) : ldQ r i es true (some v) = some ⟨[i < es.length], [], v, [], none, [r]⟩ := by rfl
theorem store_bp (m : Nat → Option Blk) (n r s i o : Nat) (v : AV) : storeR m n (.bp r s i o) v = stP n r s i o (cellsOfAV n v) (m r) := by rfl
theorem stP_buf (n r s i o : Nat) (vs : List AV) (t : Nat) (z : List AV) (es : List (List AV)) : stP n r s i o (some vs) (some (.buf t z es)) = stQ r i o vs t z es (z.length == s && (vs.all AV.clean0 && decide (o + n ≤ z.length))) := by simp only [stP, stQ]
theorem stQ_t (r i o : Nat) (vs : List AV) (t : Nat) (z : List AV) (es : List (List AV)) : stQ r i o vs t z es true = some ⟨[i < es.length], [], .junk, [(r, .buf t z (es.set i (setCells (getE z es i) o vs)))], none, [r]⟩ := by rfl
theorem ysOf_sv (m : Nat → Option Blk) (k r a b c : Nat) : ysOf m k (.sv r a b c) = ysP k r a b c (m r) := by rfl
theorem ysP_buf (k r sz lo hi t : Nat) (z : List AV) (es : List (List AV)) : ysP k r sz lo hi (some (.buf t z es)) = ysQ r lo hi es (z.length == k && z.length == sz) := by simp only [ysP, ysQ]; cases (z.length == k && z.length == sz) <;> rfl
theorem ysQ_t (r lo hi : Nat) (es : List (List AV)) : ysQ r lo hi es true = some ((es.drop lo).take (hi - lo), [r]) := by rfl
theorem cells_fr (i t : Nat) (z : List AV) (es : List (List AV)) : cellsOfAV 1 (AV.fr i t z es) = some [AV.fr i t z es] := by rfl
theorem cells_sv (r a b c : Nat) : cellsOfAV 1 (AV.sv r a b c) = some [AV.sv r a b c] := by rfl
theorem needD_bsliceO (e n : Nat) (z : List AV) (ps : List (Nat × A)) : needD (.bsliceO e n z ps) = true := by rfl
theorem needD_eqnil (n : Bool) (x : A) : needD (.eqnil n x) = false := by rfl
theorem needD_mkstr (x : A) : needD (.mkstr x) = false := by rfl
theorem needD_shl (n : Nat) (x : A) : needD (.shl n x) = false := by rfl
theorem needD_shr (n : Nat) (x : A) : needD (.shr n x) = false := by rfl
theorem needD_s2b (x : A) : needD (.s2b x) = false := by rfl
theorem needD_idxS (x i : A) : needD (.idxS x i) = false := by rfl
theorem needD_idxV (n s : Nat) (ag : Bool) (x i : A) : needD (.idxV n s ag x i) = false := by rfl
theorem needD_callv (fs : List Nat) (x : A) (xs : List A) : needD (.callv fs x xs) = false := by rfl
theorem pslots_sv (r a b c : Nat) : pslots (.sv r a b c) = [] := by rfl
theorem pslots_bp (r a b c : Nat) : pslots (.bp r a b c) = [] := by rfl
theorem pslots_nb (e : Bool) : pslots (.nb e) = [] := by rfl
theorem mergeU_eq1 (c : Bool) (m : Nat → Option Blk) (r : Nat) (cs : List AV) : mergeU c m [(r, .cells cs)] = mgU r (mgC c cs (m r)) := by
  simp only [mergeU, mgC]
  cases m r with
  | none => rfl
  | some b => cases b with
    | cells cs' => simp only []; cases mergeL c cs cs' <;> rfl
    | buf t z es => rfl
    | qb => rfl
    | ms => rfl
    | clo => rfl
    | dead => rfl
theorem mgC_cells (c : Bool) (cs ds : List AV) : mgC c cs (some (.cells ds)) = mergeL c cs ds := by rfl
theorem mgU_some (r : Nat) (cs : List AV) : mgU r (some cs) = some [(r, .cells cs)] := by rfl
theorem mergeL_nil (c : Bool) : mergeL c [] [] = some [] := by rfl
theorem mergeL_cons (c : Bool) (x y : AV) (xs ys : List AV) : mergeL c (x :: xs) (y :: ys) = consO (mergeA c x y) (mergeL c xs ys) := by
  simp only [mergeL]; cases mergeA c x y <;> cases mergeL c xs ys <;> rfl
theorem mergeA_int (c : Bool) (k : IntKind) (a b : Int) : mergeA c (.int k a) (.int k b) = some (.int k (bif c then a else b)) := by simp [mergeA]
theorem mergeA_bool (c a b : Bool) : mergeA c (.bool a) (.bool b) = some (.bool (bif c then a else b)) := by rfl
theorem mergeA_lst (c : Bool) (z : List AV) (es es1 : List (List AV)) : mergeA c (.lst z es) (.lst z es1) = some (.lst z (bif c then es else es1)) := by simp [mergeA]
theorem bits_i64  : IntKind.i64.bits = 64 := by rfl
theorem bits_u8  : IntKind.u8.bits = 8 := by rfl
theorem bits_u16  : IntKind.u16.bits = 16 := by rfl
theorem bits_u32  : IntKind.u32.bits = 32 := by rfl
theorem bits_u64  : IntKind.u64.bits = 64 := by rfl
theorem getE_set_same (z : List AV) (es : List (List AV)) (i : Nat) (e : List AV) (h : i < es.length) : getE z (es.set i e) i = e := by simp [getE, List.getD, h]
theorem ungd_gd (q : List (Nat × Bool)) (v : AV) : ungd (.gd q v) = .junk := by rfl
theorem gv_gd (p q : List (Nat × Bool)) (v : AV) : gv p (.gd q v) = gvB (q.all fun x => p.contains x) v := by
  simp only [gv]; cases (q.all fun x => p.contains x) <;> rfl
/-! ### Framework 3 -/
theorem liveB_cells (cs : List AV) : liveB (.cells cs) = some (.cells cs) := by rfl
theorem liveB_buf (t : Nat) (z : List AV) (es : List (List AV)) : liveB (.buf t z es) = some (.buf t z es) := by rfl
theorem liveB_dead : liveB .dead = none := by rfl
theorem killB_dead (r : Nat) : killB r .dead = .dead := by rfl
theorem deadL_nil : deadL [] = true := by rfl
theorem deadL_dead (r : Nat) (us : List (Nat × Blk)) : deadL ((r, .dead) :: us) = deadL us := by rfl
theorem put_nd (s : Nat → AV) (m : Nat → Option Blk) (d : Nat) (p q : List Prop) (v : AV) (j : Nat) (i : Nat) (b : Blk) (t : List Nat) : St.put ⟨s, m⟩ (some d) ⟨p, q, v, [(j, .dead)], some (i, b), t⟩ = ⟨upd (killS i s) d v, updM (killM i (updM m j none)) i (some (killB i b))⟩ := by rfl
theorem needD_appD (e bytes : Nat) (z : List AV) (x y : A) : needD (.appD e bytes z x y) = true := by rfl
theorem ev_appD (Φ : Nat → Option Ctr) (e bytes : Nat) (z : List AV) (x y : A) (d : Nat) (p : List (Nat × Bool)) (σ : St) : evOp Φ (.appD e bytes z x y) d p σ = bind2 (av σ p x) (av σ p y) (appDR σ.m e bytes z d) := by rfl
theorem appDR_nil (m : Nat → Option Blk) (e bytes : Nat) (z : List AV) (d : Nat) (y : AV) : appDR m e bytes z d .nil y = appR m e bytes z d .nil y := by rfl
def appDK (e bytes : Nat) (z : List AV) (d r : Nat) (es : List (List AV)) : Option (List (List AV) × List Nat) → Option Res
  | some (ys, t') => some ⟨[es.length + ys.length ≤ 9223372036854775807, (es.length + ys.length) * bytes ≤ 140737488355328], [], .vw (64 * d + 64) 0 0 0, [(r, .dead)], some (64 * d + 64, .buf e z (es ++ ys)), [r] ++ t'⟩
  | none => none
def appDV (e bytes : Nat) (z : List AV) (d r : Nat) (ys : Option (List (List AV) × List Nat)) : Bool → Option Blk → Option Res
  | false, some (.buf t z' es) => if t = e ∧ z'.length = z.length ∧ 64 ≤ r then appDK e bytes z d r es ys else none
  | _, _ => none
theorem appDR_vw (m : Nat → Option Blk) (e bytes : Nat) (z : List AV) (d r a b c : Nat) (y : AV) : appDR m e bytes z d (.vw r a b c) y = appDV e bytes z d r (ysOf m z.length y) (r == 64 * d + 64) (m r) := by
  simp only [appDR, baseOf]
  cases (r == 64 * d + 64) with
  | true => rfl
  | false =>
    cases hm : m r with
    | none => rfl
    | some blk =>
      cases blk with
      | cells cs => rfl
      | dead => rfl
      | qb => rfl
      | ms => rfl
      | clo => rfl
      | buf t z' es =>
        simp only [appDV]
        by_cases hc : t = e ∧ z'.length = z.length ∧ 64 ≤ r
        · rw [if_pos hc, if_pos hc]
          cases ysOf m z.length y with
          | none => rfl
          | some q => obtain ⟨ys, t⟩ := q; rfl
        · rw [if_neg hc, if_neg hc]
theorem appDV_buf (e bytes : Nat) (z : List AV) (d r : Nat) (ys : Option (List (List AV) × List Nat)) (t : Nat) (z' : List AV) (es : List (List AV)) : appDV e bytes z d r ys false (some (.buf t z' es)) = if t = e ∧ z'.length = z.length ∧ 64 ≤ r then appDK e bytes z d r es ys else none := by rfl
theorem appDK_some (e bytes : Nat) (z : List AV) (d r : Nat) (es ys : List (List AV)) (t' : List Nat) : appDK e bytes z d r es (some (ys, t')) = some ⟨[es.length + ys.length ≤ 9223372036854775807, (es.length + ys.length) * bytes ≤ 140737488355328], [], .vw (64 * d + 64) 0 0 0, [(r, .dead)], some (64 * d + 64, .buf e z (es ++ ys)), [r] ++ t'⟩ := by rfl
theorem evC_ghost (Φ : Nat → Option Ctr) (I : Nat → LI) (k : Nat) (b : RC) (s : Nat → AV) (m : Nat → Option Blk) (K : Exit → St → Prop) : evC Φ I (.ghost k b) ⟨s, m⟩ K = evC Φ I b (ghV k ⟨s, m⟩ (frzL (vws0 (s k)) ⟨s, m⟩) (s k)) K := by rfl
theorem ghV_ptr (k r : Nat) (s : Nat → AV) (m : Nat → Option Blk) (f : St) : ghV k ⟨s, m⟩ f (.ptr r 0) = fzB k r s m (m r) := by rfl
theorem ghV_vw (k : Nat) (σ f : St) (r a b c : Nat) : ghV k σ f (.vw r a b c) = f := by rfl
theorem ghV_sv (k : Nat) (σ f : St) (r a b c : Nat) : ghV k σ f (.sv r a b c) = f := by rfl
def fzC (k r : Nat) (s : Nat → AV) (m : Nat → Option Blk) (cs : List AV) : Bool → St
  | true => ⟨upd s k (.ep cs [cs] 0 0), updM m r none⟩
  | false => ⟨s, m⟩
theorem fzB_cells (k r : Nat) (s : Nat → AV) (m : Nat → Option Blk) (cs : List AV) : fzB k r s m (some (.cells cs)) = fzC k r s m cs (decide (64 ≤ r) && cs.all AV.clean0) := by
  simp only [fzB, fzC]
  cases (decide (64 ≤ r) && cs.all AV.clean0) <;> rfl
theorem fzC_t (k r : Nat) (s : Nat → AV) (m : Nat → Option Blk) (cs : List AV) : fzC k r s m cs true = ⟨upd s k (.ep cs [cs] 0 0), updM m r none⟩ := by rfl
theorem c0_ep (z : List AV) (es : List (List AV)) (i o : Nat) : AV.clean0 (AV.ep z es i o) = true := by rfl
theorem c1_ep (z : List AV) (es : List (List AV)) (i o : Nat) : AV.clean1 (AV.ep z es i o) = true := by rfl
theorem c2_ep (z : List AV) (es : List (List AV)) (i o : Nat) : AV.clean2 (AV.ep z es i o) = true := by rfl
theorem lendA_ep (m : Nat → Option Blk) (z : List AV) (es : List (List AV)) (i o : Nat) : lendA m (AV.ep z es i o) = some (AV.ep z es i o, []) := by rfl
theorem lend1_ep (m : Nat → Option Blk) (z : List AV) (es : List (List AV)) (i o : Nat) : lend1 m (AV.ep z es i o) = some (AV.ep z es i o, []) := by rfl
theorem pslots_ap (r a b c : Nat) : pslots (.ap r a b c) = [] := by rfl
theorem killB_qb (r t : Nat) (z : List AV) (es : List (List AV)) : killB r (.qb t z es) = .qb t z es := by rfl
theorem killB_ms (r n : Nat) (ks : List (List Int)) : killB r (.ms n ks) = .ms n ks := by rfl
theorem killB_clo (r f : Nat) (z : List AV) (es : List (List AV)) (i o : Nat) : killB r (.clo f z es i o) = .clo f z es i o := by rfl
theorem frzB_qb (r : Nat) (zz : List AV) (ee : List (List AV)) (t : Nat) (z : List AV) (es : List (List AV)) : frzB r zz ee (.qb t z es) = .qb t z es := by rfl
theorem frzB_ms (r : Nat) (zz : List AV) (ee : List (List AV)) (n : Nat) (ks : List (List Int)) : frzB r zz ee (.ms n ks) = .ms n ks := by rfl
theorem frzB_clo (r : Nat) (zz : List AV) (ee : List (List AV)) (f : Nat) (z : List AV) (es : List (List AV)) (i o : Nat) : frzB r zz ee (.clo f z es i o) = .clo f z es i o := by rfl
theorem renB_qb (k R t : Nat) (z : List AV) (es : List (List AV)) : renB k R (.qb t z es) = .qb t z es := by rfl
theorem renB_ms (k R n : Nat) (ks : List (List Int)) : renB k R (.ms n ks) = .ms n ks := by rfl
theorem renB_clo (k R f : Nat) (z : List AV) (es : List (List AV)) (i o : Nat) : renB k R (.clo f z es i o) = .clo f z es i o := by rfl
theorem liveB_qb (t : Nat) (z : List AV) (es : List (List AV)) : liveB (.qb t z es) = some (.qb t z es) := by rfl
theorem liveB_ms (n : Nat) (ks : List (List Int)) : liveB (.ms n ks) = some (.ms n ks) := by rfl
theorem liveB_clo (f : Nat) (z : List AV) (es : List (List AV)) (i o : Nat) : liveB (.clo f z es i o) = some (.clo f z es i o) := by rfl
theorem leB_bq (t t1 : Nat) (z z1 : List AV) (es es1 : List (List AV)) : leB (some (.buf t z es)) (.qb t1 z1 es1) = (t = t1 ∧ z = z1 ∧ es = es1) := by rfl
theorem leB_qb (t t1 : Nat) (z z1 : List AV) (es es1 : List (List AV)) : leB (some (.qb t z es)) (.qb t1 z1 es1) = (t = t1 ∧ z = z1 ∧ es = es1) := by rfl
theorem leB_ms (n n1 : Nat) (ks ks1 : List (List Int)) : leB (some (.ms n ks)) (.ms n1 ks1) = (n = n1 ∧ ks = ks1) := by rfl
theorem leB_clo (f f1 : Nat) (z z1 : List AV) (es es1 : List (List AV)) (i i1 o o1 : Nat) : leB (some (.clo f z es i o)) (.clo f1 z1 es1 i1 o1) = (f = f1 ∧ z = z1 ∧ es = es1 ∧ i = i1 ∧ o = o1) := by rfl
theorem lkB_qb (B : Nat → Option Blk) (r : Nat) (x : Option Blk) (t : Nat) (z : List AV) (es : List (List AV)) : lkB B r x (.qb t z es) = [] := by cases x with | none => rfl | some b => cases b <;> rfl
theorem lkB_ms (B : Nat → Option Blk) (r : Nat) (x : Option Blk) (n : Nat) (ks : List (List Int)) : lkB B r x (.ms n ks) = [] := by cases x with | none => rfl | some b => cases b <;> rfl
theorem lkB_clo (B : Nat → Option Blk) (r : Nat) (x : Option Blk) (f : Nat) (z : List AV) (es : List (List AV)) (i o : Nat) : lkB B r x (.clo f z es i o) = [] := by cases x with | none => rfl | some b => cases b <;> rfl
theorem appQR_nil (m : Nat → Option Blk) (e bytes : Nat) (z : List AV) (d : Nat) (y : AV) : appQR m e bytes z d .nil y = appR m e bytes z d .nil y := by rfl
def appC (e bytes : Nat) (z : List AV) (r : Nat) (ys : Option (List (List AV) × List Nat)) : Option Blk → Option Res
  | some (.qb t z' es) => appQ e bytes z r (some (.qb t z' es)) ys
  | b => appV e bytes z r ys b
theorem appQR_vw (m : Nat → Option Blk) (e bytes : Nat) (z : List AV) (d r a b c : Nat) (y : AV) : appQR m e bytes z d (.vw r a b c) y = appC e bytes z r (ysOf m z.length y) (m r) := by
  simp only [appQR, isQ]
  cases hm : m r with
  | none => simp only [appR_vw, hm]; rfl
  | some blk => cases blk <;> simp only [appR_vw, hm] <;> rfl
theorem appC_buf (e bytes : Nat) (z : List AV) (r : Nat) (ys : Option (List (List AV) × List Nat)) (t : Nat) (z' : List AV) (es : List (List AV)) : appC e bytes z r ys (some (.buf t z' es)) = appV e bytes z r ys (some (.buf t z' es)) := by rfl
def appQK (e bytes : Nat) (z' : List AV) (r : Nat) (es ys : List (List AV)) (t' : List Nat) : Option Res := some ⟨[0 < ys.length, es.length + ys.length ≤ 9223372036854775807, (es.length + ys.length) * bytes ≤ 140737488355328], [], .vw r 0 0 0, [], some (r, .qb e z' (es ++ ys)), r :: t'⟩
theorem appC_qb (e bytes : Nat) (z : List AV) (r : Nat) (ys : List (List AV)) (t' : List Nat) (t : Nat) (z' : List AV) (es : List (List AV)) : appC e bytes z r (some (ys, t')) (some (.qb t z' es)) = if t = e ∧ z'.length = z.length ∧ 64 ≤ r then appQK e bytes z' r es ys t' else none := by
  simp only [appC, appQ, appQK]
  by_cases h : t = e ∧ z'.length = z.length ∧ 64 ≤ r
  · rw [if_pos h, decide_eq_true h]
  · rw [if_neg h, decide_eq_false h]
theorem appQK_eq (e bytes : Nat) (z' : List AV) (r : Nat) (es ys : List (List AV)) (t' : List Nat) : appQK e bytes z' r es ys t' = some ⟨[0 < ys.length, es.length + ys.length ≤ 9223372036854775807, (es.length + ys.length) * bytes ≤ 140737488355328], [], .vw r 0 0 0, [], some (r, .qb e z' (es ++ ys)), r :: t'⟩ := by rfl
theorem sliceQ_lst (m : Nat → Option Blk) (sz : Nat) (z : List AV) (es : List (List AV)) (lo hi : Option (Option AV)) : sliceQ m sz (some (.lst z es)) lo hi = sliceO m sz (some (.lst z es)) lo hi := by rfl
theorem sliceQ_nil (m : Nat → Option Blk) (sz : Nat) (lo hi : Option (Option AV)) : sliceQ m sz (some .nil) lo hi = sliceO m sz (some .nil) lo hi := by rfl
theorem sliceQ_sv (m : Nat → Option Blk) (sz r a b c : Nat) (lo hi : Option (Option AV)) : sliceQ m sz (some (.sv r a b c)) lo hi = sliceO m sz (some (.sv r a b c)) lo hi := by rfl
def slC (m : Nat → Option Blk) (sz r a b c : Nat) (lo hi : Option (Option AV)) : Option Blk → Option Res
  | some (.qb t z es) => slQ sz r lo hi (some (.qb t z es))
  | _ => sliceO m sz (some (.vw r a b c)) lo hi
theorem sliceQ_vw (m : Nat → Option Blk) (sz r a b c : Nat) (lo hi : Option (Option AV)) : sliceQ m sz (some (.vw r a b c)) lo hi = slC m sz r a b c lo hi (m r) := by
  simp only [sliceQ, isQ]
  cases hm : m r with
  | none => rfl
  | some blk => cases blk <;> simp only [hm] <;> rfl
theorem slC_buf (m : Nat → Option Blk) (sz r a b c : Nat) (lo hi : Option (Option AV)) (t : Nat) (z : List AV) (es : List (List AV)) : slC m sz r a b c lo hi (some (.buf t z es)) = sliceO m sz (some (.vw r a b c)) lo hi := by rfl
def slK (r t : Nat) (z : List AV) (es : List (List AV)) : Option Int → Bool → Option Res
  | some l, true => some ⟨[0 ≤ l ∧ l ≤ es.length], [], .vw r 0 0 0, [], some (r, .qb t z (es.drop l.toNat)), [r]⟩
  | _, _ => none
theorem slC_qb (m : Nat → Option Blk) (sz r a b c : Nat) (lo : Option AV) (t : Nat) (z : List AV) (es : List (List AV)) : slC m sz r a b c (some lo) (some none) (some (.qb t z es)) = slK r t z es (loOf lo) (z.length == sz && decide (64 ≤ r)) := by
  simp only [slC, slQ, slK]
  cases loOf lo <;> cases (z.length == sz && decide (64 ≤ r)) <;> rfl
theorem slK_t (r t : Nat) (z : List AV) (es : List (List AV)) (l : Int) : slK r t z es (some l) true = some ⟨[0 ≤ l ∧ l ≤ es.length], [], .vw r 0 0 0, [], some (r, .qb t z (es.drop l.toNat)), [r]⟩ := by rfl
theorem lenV_qb (r t : Nat) (z : List AV) (es : List (List AV)) : lenV 0 r (some (.qb t z es)) = some ⟨[], [es.length ≤ 9223372036854775807], .int .i64 es.length, [], none, [r]⟩ := by rfl
theorem iasV_qb (zero : List AV) (r : Nat) (n : Int) (t : Nat) (z : List AV) (es : List (List AV)) : iasV zero r n (some (.qb t z es)) = iasW zero r n es (z.length == zero.length) := by simp only [iasV, iasW]; cases (z.length == zero.length) <;> rfl
theorem ldP_qb (n : Nat) (ag : Bool) (r s i o t : Nat) (z : List AV) (es : List (List AV)) : ldP n ag r s i o (some (.qb t z es)) = ldQ r i es (z.length == s) (valOf ag n (getE z es i) o) := by simp only [ldP, ldQ]
theorem eo_mkmap (Φ : Nat → Option Ctr) (dst : Option Nat) (n : Nat) (g : Option (Nat × Bool)) (af : List Nat) (rest : List RO) (σ : St) (K : St → Prop) : evOps Φ (⟨dst, .mkmap n, g, af⟩ :: rest) σ K = goOp Φ rest K σ dst (evG Φ ⟨dst, .mkmap n, g, af⟩ σ) := by
  cases dst <;> cases g <;> (simp only [evOps, strOf, extOf, preF, frzL, goOp]; cases evG Φ _ _ <;> rfl)
theorem eo_mlook (Φ : Nat → Option Ctr) (dst : Option Nat) (n : Nat) (x i : A) (g : Option (Nat × Bool)) (af : List Nat) (rest : List RO) (σ : St) (K : St → Prop) : evOps Φ (⟨dst, .mlook n x i, g, af⟩ :: rest) σ K = goOp Φ rest K σ dst (evG Φ ⟨dst, .mlook n x i, g, af⟩ σ) := by
  cases dst <;> cases g <;> (simp only [evOps, strOf, extOf, preF, frzL, goOp]; cases evG Φ _ _ <;> rfl)
theorem eo_mput (Φ : Nat → Option Ctr) (dst : Option Nat) (n : Nat) (x i : A) (g : Option (Nat × Bool)) (af : List Nat) (rest : List RO) (σ : St) (K : St → Prop) : evOps Φ (⟨dst, .mput n x i, g, af⟩ :: rest) σ K = goOp Φ rest K σ dst (evG Φ ⟨dst, .mput n x i, g, af⟩ σ) := by
  cases dst <;> cases g <;> (simp only [evOps, strOf, extOf, preF, frzL, goOp]; cases evG Φ _ _ <;> rfl)
theorem eo_mkclo (Φ : Nat → Option Ctr) (dst : Option Nat) (f : Nat) (x : A) (g : Option (Nat × Bool)) (af : List Nat) (rest : List RO) (σ : St) (K : St → Prop) : evOps Φ (⟨dst, .mkclo f x, g, af⟩ :: rest) σ K = goOp Φ rest K σ dst (evG Φ ⟨dst, .mkclo f x, g, af⟩ σ) := by
  cases dst <;> cases g <;> (simp only [evOps, strOf, extOf, preF, frzL, goOp]; cases evG Φ _ _ <;> rfl)
theorem needD_mkmap (n : Nat) : needD (.mkmap n) = true := by rfl
theorem needD_mlook (n : Nat) (x i : A) : needD (.mlook n x i) = false := by rfl
theorem needD_mput (n : Nat) (x i : A) : needD (.mput n x i) = false := by rfl
theorem needD_mkclo (f : Nat) (x : A) : needD (.mkclo f x) = true := by rfl
theorem ev_mkmap (Φ : Nat → Option Ctr) (n d : Nat) (p : List (Nat × Bool)) (σ : St) : evOp Φ (.mkmap n) d p σ = some ⟨[], [], .ap (64 * d + 64) 0 0 0, [], some (64 * d + 64, .ms n []), []⟩ := by rfl
theorem ev_mlook (Φ : Nat → Option Ctr) (n : Nat) (x i : A) (d : Nat) (p : List (Nat × Bool)) (σ : St) : evOp Φ (.mlook n x i) d p σ = bind2 (av σ p x) (av σ p i) (lookR σ.m n) := by rfl
theorem ev_mput (Φ : Nat → Option Ctr) (n : Nat) (x i : A) (d : Nat) (p : List (Nat × Bool)) (σ : St) : evOp Φ (.mput n x i) d p σ = bind2 (av σ p x) (av σ p i) (putR σ.m n) := by rfl
theorem ev_mkclo (Φ : Nat → Option Ctr) (f : Nat) (x : A) (d : Nat) (p : List (Nat × Bool)) (σ : St) : evOp Φ (.mkclo f x) d p σ = bind1 (av σ p x) (cloR f d) := by rfl
theorem cloR_ep (f d : Nat) (z : List AV) (es : List (List AV)) (i o : Nat) : cloR f d (.ep z es i o) = some ⟨[], [], .ap (64 * d + 64) 0 0 0, [], some (64 * d + 64, .clo f z es i o), []⟩ := by rfl
theorem lookR_ap (m : Nat → Option Blk) (n r a b c : Nat) (i : AV) : lookR m n (.ap r a b c) i = lookM1 n r (keyA n i) (m r) := by rfl
theorem putR_ap (m : Nat → Option Blk) (n r a b c : Nat) (i : AV) : putR m n (.ap r a b c) i = putM1 n r (keyA n i) (m r) := by rfl
theorem keyA_u8 (a : Int) : keyA 0 (.int .u8 a) = some [a] := by rfl
theorem keyA_2 (a b : Int) : keyA 2 (.agg [.int .i64 a, .int .i64 b]) = some [a, b] := by rfl
theorem lookM1_ms (n r : Nat) (k : List Int) (ks : List (List Int)) : lookM1 n r (some k) (some (.ms n ks)) = some ⟨[], [], .bool (decide (k ∈ ks)), [], none, [r]⟩ := by simp [lookM1]
theorem putM1_ms (n r : Nat) (k : List Int) (ks : List (List Int)) : putM1 n r (some k) (some (.ms n ks)) = some ⟨[k ∉ ks], [], .junk, [(r, .ms n (k :: ks))], none, [r]⟩ := by simp [putM1]
theorem clV_ap (Φ : Nat → Option Ctr) (m : Nat → Option Blk) (fs : List Nat) (r a b c : Nat) (vs : List AV) : clV Φ m fs (some (.ap r a b c)) (some vs) = cloV Φ m fs r vs (m r) := by rfl
def cloW (Φ : Nat → Option Ctr) (m : Nat → Option Blk) (r f : Nat) (vs : List AV) : Bool → Option Res
  | true => tchR r (callR m (Φ f) vs)
  | false => none
theorem cloV_clo (Φ : Nat → Option Ctr) (m : Nat → Option Blk) (fs : List Nat) (r : Nat) (vs : List AV) (f : Nat) (z : List AV) (es : List (List AV)) (i o : Nat) : cloV Φ m fs r vs (some (.clo f z es i o)) = cloW Φ m r f (vs ++ [.ep z es i o]) (fs.contains f) := by
  simp only [cloV, cloW]
  cases fs.contains f <;> rfl
theorem cloW_t (Φ : Nat → Option Ctr) (m : Nat → Option Blk) (r f : Nat) (vs : List AV) : cloW Φ m r f vs true = tchR r (callR m (Φ f) vs) := by rfl
theorem tchR_some (r : Nat) (pre post : List Prop) (v : AV) (t : List Nat) : tchR r (some ⟨pre, post, v, [], none, t⟩) = some ⟨pre, post, v, [], none, r :: t⟩ := by rfl
theorem evC_cut (Φ : Nat → Option Ctr) (I : Nat → LI) (n : Nat) (b : RC) (σ : St) (K : Exit → St → Prop) : evC Φ I (.cut n b) σ K = (∃ i0, ((I n).S i0).ge σ ∧ (I n).R i0 i0 ∧ ∀ i, (I n).R i0 i → evC Φ I b ((I n).S i).st K) := by rfl
theorem evC_mreg (Φ : Nat → Option Ctr) (I : Nat → LI) (m : Nat) (es : List (Int × Int)) (a b : Nat) (x : A) (c d : Nat) (s : Nat → AV) (M : Nat → Option Blk) (K : Exit → St → Prop) : evC Φ I (.mreg m es a b x c d) ⟨s, M⟩ K = mregS m es a b c d s M K (ar ⟨upd (upd s m .junk) a .junk, M⟩ x) := by rfl
theorem mregS_at (m : Nat) (es : List (Int × Int)) (a b c d : Nat) (s : Nat → AV) (M : Nat → Option Blk) (K : Exit → St → Prop) (n : Int) : mregS m es a b c d s M K (.int .u8 n) = K .normal ⟨upd (upd (upd (upd (upd s m .junk) a .junk) b (.int .u8 n)) c (.int .i64 (lookI n es))) d (.int .i64 (lookI n es)), M⟩ := by rfl
theorem evC_split (Φ : Nat → Option Ctr) (I : Nat → LI) (ops : List RO) (σ : St) (K : Exit → St → Prop) : evC Φ I (.split ops) σ K = evOpsS Φ ops σ (kN K) := by rfl
theorem evOpsS_nil (Φ : Nat → Option Ctr) (σ : St) (K : St → Prop) : evOpsS Φ [] σ K = K σ := by rfl
theorem evOpsS_cons (Φ : Nat → Option Ctr) (o : RO) (rest : List RO) (σ : St) (K : St → Prop) : evOpsS Φ (o :: rest) σ K = evS1 Φ o σ (evOpsSk Φ rest K) := by rfl
theorem evS1_none (Φ : Nat → Option Ctr) (dst : Option Nat) (op : IOp) (af : List Nat) (σ : St) (K : St → Prop) : evS1 Φ ⟨dst, op, none, af⟩ σ K = evS0k Φ dst af σ K op (pickOf op) := by rfl
theorem evS1_some (Φ : Nat → Option Ctr) (dst : Option Nat) (op : IOp) (g : Nat) (b : Bool) (af : List Nat) (s : Nat → AV) (m : Nat → Option Blk) (K : St → Prop) : evS1 Φ ⟨dst, op, some (g, b), af⟩ ⟨s, m⟩ K = evSG Φ dst op g b af ⟨s, m⟩ K (s g) := by rfl
theorem evSG_bool (Φ : Nat → Option Ctr) (d : Nat) (op : IOp) (g : Nat) (b : Bool) (af : List Nat) (s : Nat → AV) (m : Nat → Option Blk) (K : St → Prop) (c : Bool) : evSG Φ (some d) op g b af ⟨s, m⟩ K (.bool c) = (if c = b then evS0k Φ (some d) af ⟨upd s g (.bool b), m⟩ K op (pickOf op) else K ⟨upd (upd s g (.bool !b)) d (.tup []), m⟩) := by
  show (_ ∧ _) = _
  cases c <;> cases b <;> simp [evS0]
theorem evSG_tup (Φ : Nat → Option Ctr) (d : Nat) (op : IOp) (g : Nat) (b : Bool) (af : List Nat) (s : Nat → AV) (m : Nat → Option Blk) (K : St → Prop) : evSG Φ (some d) op g b af ⟨s, m⟩ K (.tup []) = K ⟨upd s d (.tup []), m⟩ := by rfl
theorem evS0k_none (Φ : Nat → Option Ctr) (dst : Option Nat) (af : List Nat) (σ : St) (K : St → Prop) (op : IOp) : evS0k Φ dst af σ K op none = evOps Φ [⟨dst, op, none, af⟩] σ K := by rfl
theorem evS0k_some (Φ : Nat → Option Ctr) (dst : Option Nat) (af : List Nat) (σ : St) (K : St → Prop) (op : IOp) (c x y : A) : evS0k Φ dst af σ K op (some (c, x, y)) = pickS dst c x y σ K (ar σ c) := by rfl
theorem pickS_bool (d k : Nat) (x y : A) (s : Nat → AV) (m : Nat → Option Blk) (K : St → Prop) (q : Bool) : pickS (some d) (.t k) x y ⟨s, m⟩ K (.bool q) = (if q = true then K ⟨upd (upd s k (.bool true)) d (ar ⟨s, m⟩ x), m⟩ else K ⟨upd (upd s k (.bool false)) d (ar ⟨s, m⟩ y), m⟩) := by
  show (_ ∧ _) = _
  cases q <;> simp
theorem evC_splitD (Φ : Nat → Option Ctr) (I : Nat → LI) (ops : List RO) (σ : St) (K : Exit → St → Prop) : evC Φ I (.splitD ops) σ K = evDS Φ ops 0 [] (preK ops σ) (kEnd ops K) := by rfl
theorem evDS_nil (Φ : Nat → Option Ctr) (n : Nat) (D : DL) (σ : St) (K : St → Prop) : evDS Φ [] n D σ K = knowD D (K σ) := by rfl
theorem evDS_cons (Φ : Nat → Option Ctr) (o : RO) (rest : List RO) (n : Nat) (D : DL) (σ : St) (K : St → Prop) : evDS Φ (o :: rest) n D σ K = evDS1 Φ o n D σ (evDSk Φ rest (n + 1) K) := by rfl
theorem evDS1_none (Φ : Nat → Option Ctr) (d : Option Nat) (op : IOp) (af : List Nat) (n : Nat) (D : DL) (σ : St) (K : DL → St → Prop) : evDS1 Φ ⟨d, op, none, af⟩ n D σ K = passDS Φ d op af n D σ K (pickOf op) := by rfl
theorem evDS1_gd (Φ : Nat → Option Ctr) (d : Option Nat) (op : IOp) (g : Nat) (b : Bool) (af : List Nat) (n : Nat) (D : DL) (s : Nat → AV) (m : Nat → Option Blk) (K : DL → St → Prop) : evDS1 Φ ⟨d, op, some (g, b), af⟩ n D ⟨s, m⟩ K = guardDS Φ d op g b af n D ⟨s, m⟩ K (s g) := by rfl
theorem guardDS_bool (Φ : Nat → Option Ctr) (d : Option Nat) (op : IOp) (g : Nat) (b : Bool) (af : List Nat) (n : Nat) (D : DL) (s : Nat → AV) (m : Nat → Option Blk) (K : DL → St → Prop) (c : Bool) : guardDS Φ d op g b af n D ⟨s, m⟩ K (.bool c) = (if c = b then passDS Φ d op af n D ⟨upd s g (.bool b), m⟩ K (pickOf op) else stepDS d af n D ⟨upd s g (.bool !b), m⟩ K (some ⟨[], [], .junk, [], none, []⟩)) := by
  show (_ ∧ _) = _
  cases c <;> cases b <;> simp
theorem passDS_none (Φ : Nat → Option Ctr) (d : Nat) (op : IOp) (af : List Nat) (n : Nat) (D : DL) (σ : St) (K : DL → St → Prop) : passDS Φ (some d) op af n D σ K none = stepDS (some d) af n D σ K (evOp Φ op d [] σ) := by rfl
theorem passDS_st (Φ : Nat → Option Ctr) (op : IOp) (af : List Nat) (n : Nat) (D : DL) (σ : St) (K : DL → St → Prop) : passDS Φ none op af n D σ K none = stepDS none af n D σ K (evOp Φ op 0 [] σ) := by rfl
theorem passDS_some (Φ : Nat → Option Ctr) (d : Option Nat) (op : IOp) (af : List Nat) (n : Nat) (D : DL) (σ : St) (K : DL → St → Prop) (c x y : A) : passDS Φ d op af n D σ K (some (c, x, y)) = pickDS d af n D σ K c x y (ar σ c) := by rfl
theorem pickDS_bool (d : Option Nat) (af : List Nat) (n : Nat) (D : DL) (s : Nat → AV) (m : Nat → Option Blk) (K : DL → St → Prop) (k : Nat) (x y : A) (q : Bool) : pickDS d af n D ⟨s, m⟩ K (.t k) x y (.bool q) = (if q = true then stepDS d af n D ⟨upd s k (.bool true), m⟩ K (vRes (av ⟨s, m⟩ [] x)) else stepDS d af n D ⟨upd s k (.bool false), m⟩ K (vRes (av ⟨s, m⟩ [] y))) := by
  show (_ ∧ _) = _
  cases q <;> simp
theorem vRes_some (v : AV) : vRes (some v) = some ⟨[], [], v, [], none, []⟩ := by rfl
theorem stepDS_some (d : Option Nat) (af : List Nat) (n : Nat) (D : DL) (σ : St) (K : DL → St → Prop) (pre post : List Prop) (v : AV) (us : List (Nat × Blk)) (nw : Option (Nat × Blk)) (t : List Nat) : stepDS d af n D σ K (some ⟨pre, post, v, us, nw, t⟩) = (newOK d ⟨pre, post, v, us, nw, t⟩ ∧ askL pre (pairD D af d ⟨pre, post, v, us, nw, t⟩ (K ((n, d, ⟨pre, post, v, us, nw, t⟩) :: D) (σ.put d ⟨pre, post, v, us, nw, t⟩)))) := by rfl
theorem iteP (c : Bool) (A B : Prop) : (if c = true then A else B) = ((c = true → A) ∧ (c = false → B)) := by cases c <;> simp
theorem iteF (c : Bool) (A B : Prop) : (if c = false then A else B) = ((c = false → A) ∧ (c = true → B)) := by cases c <;> simp
end Go.Ev
