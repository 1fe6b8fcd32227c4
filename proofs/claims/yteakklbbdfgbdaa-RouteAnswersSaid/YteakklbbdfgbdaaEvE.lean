/- A part of the proof: symbolic evaluation of the program's functions, proved sound against the model; no condition. -/
/-
  The framework 'Ev', part E: the operations that leave the world alone.
  Conditions: none; a text of lemmas.
-/
import Derived.Test.YteakklbbdfgbdaaEvD
namespace Go.Ev
open Go Go.RowKit
set_option linter.unusedVariables false
set_option linter.unusedSectionVars false
set_option linter.unusedSimpArgs false

/-- A path of guards holds of the slots. -/
def pathT (tm : Array Value) (p : List (Nat × Bool)) : Prop := ∀ q ∈ p, tm[q.1]? = some (.bool q.2)

/-- What a slot's abstract value says of it. -/
def SRep (Z : Nat → Prop) (w : World) (θ : Nat → Value) (tm : Array Value) : AV → Value → Prop
  | .gd p y, v => (pathT tm p → Rep Z w θ y v) ∧ (¬ pathT tm p → v = undef)
  | x, v => Rep Z w θ x v

theorem constAV_rep {Z : Nat → Prop} {w : World} {θ : Nat → Value} {v : Value} {x : AV} (h : constAV v = some x) : Rep Z w θ x v ∧ x.clean0 = true := by
  unfold constAV at h
  split at h <;> simp at h
  · subst h; exact ⟨.int _ _ _, rfl⟩
  · subst h; exact ⟨.bool _ _, rfl⟩
  · subst h; rename_i s; exact ⟨.str θ s.data.toList, rfl⟩
  · subst h; exact ⟨.nil _, rfl⟩
  · rename_i f first cap
    obtain ⟨⟨rfl, rfl⟩, rfl⟩ := h
    exact ⟨.fn _ _, rfl⟩

theorem clean0_atom {x : AV} (h : x.clean0 = true) : x.atom = true := by cases x <;> simp_all [AV.clean0, AV.atom]
theorem clean0_ne {x : AV} (h : x.clean0 = true) : x ≠ .junk := by rintro rfl; simp [AV.clean0] at h

theorem constAVs_cells {Z : Nat → Prop} {w : World} {θ : Nat → Value} : ∀ {vs : List Value} {xs : List AV}, constAVs vs = some xs → Cells Z w θ xs vs ∧ xs.all AV.clean0 = true
  | [], xs, h => by simp [constAVs] at h; subst h; exact ⟨.nil _ _ _, rfl⟩
  | v :: vs, xs, h => by
    unfold constAVs at h
    split at h
    · rename_i a as ha has
      simp at h; subst h
      obtain ⟨h1, h2⟩ := constAV_rep (Z := Z) (w := w) (θ := θ) ha
      obtain ⟨h3, h4⟩ := constAVs_cells (Z := Z) (w := w) (θ := θ) has
      refine ⟨?_, by simp only [List.all_cons, h2, h4, Bool.and_self]⟩
      exact Cells.append (Cells.one' h1 (clean0_atom h2) (h1.oneCell (clean0_atom h2) (clean0_ne h2))) h3
    · cases h

section
variable {P : Program} {Z : Nat → Prop} {w : World} {θ : Nat → Value} {a : Act} {σ : St} {p : List (Nat × Bool)}

theorem gv_rep {tm : Array Value} (hp : pathT tm p) {x y : AV} {v : Value} (h : SRep Z w θ tm x v) (hg : gv p x = some y) : Rep Z w θ y v := by
  cases x with
  | gd q z =>
    simp only [gv] at hg
    split at hg <;> simp at hg
    rename_i hq
    subst hg
    refine h.1 fun e he => hp e ?_
    have := List.all_eq_true.1 hq e he
    simpa using this
  | _ => simp only [gv, Option.some.injEq] at hg; subst hg; exact h

theorem av_rep (hs : ∀ k, SRep Z w θ a.tmps (σ.s k) (a.tmps.getD k undef)) (hp : pathT a.tmps p) {x : Operand} {x' : A} (hc : compA x = some x') {y : AV} (h : av σ p x' = some y) : Rep Z w θ y (a.eval x) := by
  cases x with
  | tmp t =>
    simp [compA] at hc; subst hc
    exact gv_rep hp (hs t) h
  | const v =>
    simp only [compA, Option.map_eq_some_iff] at hc
    obtain ⟨z, hz, rfl⟩ := hc
    have hr : Rep Z w θ z (a.eval (.const v)) := by
      rw [Option.or_eq_some_iff] at hz
      rcases hz with hz | ⟨_, hz⟩
      · exact (constAV_rep (Z := Z) (w := w) (θ := θ) hz).1
      · unfold idle at hz
        split at hz <;> simp at hz
        · subst hz; exact .junk _ _
        · subst hz; exact .junk _ _
    refine gv_rep (tm := a.tmps) hp ?_ h
    simp only [ar]
    cases z <;> first | exact hr | cases hr
  | global g => simp [compA] at hc
  | func f =>
    simp [compA] at hc; subst hc
    simp [av, ar, gv] at h; subst h
    exact .fn _ _

/-- Lists of values. -/
structure Reps (Z : Nat → Prop) (w : World) (θ : Nat → Value) (xs : List AV) (vs : List Value) : Prop where
  len : vs.length = xs.length
  rep : ∀ (i : Nat) (c : AV) (v : Value), xs[i]? = some c → vs[i]? = some v → Rep Z w θ c v

theorem avs_reps (hs : ∀ k, SRep Z w θ a.tmps (σ.s k) (a.tmps.getD k undef)) (hp : pathT a.tmps p) : ∀ {xs : List Operand} {xs' : List A}, compAs xs = some xs' → ∀ {ys : List AV}, avs σ p xs' = some ys → Reps Z w θ ys (xs.map a.eval)
  | [], xs', hc, ys, h => by
    simp [compAs] at hc; subst hc
    simp [avs] at h; subst h
    exact ⟨rfl, by simp⟩
  | x :: xs, xs', hc, ys, h => by
    unfold compAs at hc
    split at hc <;> simp at hc
    subst hc
    rename_i b bs hb hbs
    unfold avs at h
    split at h <;> simp at h
    subst h
    rename_i v vs hv hvs
    have ih := avs_reps hs hp hbs hvs
    refine ⟨by simp [ih.len], fun i c u hi hu => ?_⟩
    cases i with
    | zero => simp at hi hu; subst hi; subst hu; exact av_rep hs hp hb hv
    | succ i => simp at hi; exact ih.rep i c u hi (by simpa using hu)

/-- The operation leaves the world alone and yields what its outcome says. -/
def Calm (P : Program) (Z : Nat → Prop) (w : World) (θ : Nat → Value) (a : Act) (o : Oper) (r : Res) : Prop :=
  r.ups = [] ∧ r.new = none ∧ (∀ q ∈ r.post, q) ∧ ∃ v, (execOp a.eval o).run P w = .ok (.value v) w ∧ Rep Z w θ r.val v

theorem Calm.q {o : Oper} {x : AV} {r : Res} (hr : Res.q x = some r) {v : Value} (h : (execOp a.eval o).run P w = .ok (.value v) w) (hv : Rep Z w θ x v) : Calm P Z w θ a o r := by
  simp [Res.q] at hr; subst hr
  exact ⟨rfl, rfl, by simp, v, h, hv⟩
theorem Calm.qp {o : Oper} {x : AV} {r : Res} {q : Prop} (hr : Res.qp q x = some r) {v : Value} (h : (execOp a.eval o).run P w = .ok (.value v) w) (hv : Rep Z w θ x v) : Calm P Z w θ a o r := by
  simp [Res.qp] at hr; subst hr
  exact ⟨rfl, rfl, by simp, v, h, hv⟩

theorem bind1_some {x : Option AV} {f : AV → Option Res} {r : Res} (h : bind1 x f = some r) : ∃ y, x = some y ∧ f y = some r := by
  cases x with
  | none => cases h
  | some y => exact ⟨y, rfl, h⟩
theorem bind2_some {x y : Option AV} {f : AV → AV → Option Res} {r : Res} (h : bind2 x y f = some r) : ∃ u v, x = some u ∧ y = some v ∧ f u v = some r := by
  cases x with
  | none => cases h
  | some u => cases y with
    | none => cases h
    | some v => exact ⟨u, v, rfl, rfl, h⟩
theorem toR_some {x : Option AV} {r : Res} (h : toR x = some r) : ∃ y, x = some y ∧ Res.q y = some r := by
  cases x with
  | none => cases h
  | some y => exact ⟨y, rfl, h⟩

theorem getD_bool {tm : Array Value} {k : Nat} {b : Bool} (h : tm.getD k undef = .bool b) : tm[k]? = some (.bool b) := by
  rw [Array.getD_eq_getD_getElem?] at h
  cases hk : tm[k]? with
  | none => rw [hk] at h; simp [undef] at h
  | some v => rw [hk] at h; simp at h; rw [h]

theorem pathT_app {tm : Array Value} (hp : pathT tm p) {k : Nat} {b : Bool} (h : tm[k]? = some (.bool b)) : pathT tm (p ++ [(k, b)]) := by
  intro q hq
  rcases List.mem_append.1 hq with hq | hq
  · exact hp q hq
  · simp at hq; subst hq; exact h

theorem pickV_some {vc x y : AV} {r : Res} (h : pickV vc x y = some r) : ∃ c b d, vc = .bool c ∧ x = .bool b ∧ y = .bool d ∧ Res.q (.bool (bif c then b else d)) = some r := by
  unfold pickV at h
  split at h
  · exact ⟨_, _, _, rfl, rfl, rfl, h⟩
  · cases h

variable (hs : ∀ k, SRep Z w θ a.tmps (σ.s k) (a.tmps.getD k undef)) (hp : pathT a.tmps p)
include hs hp

theorem calm_mov {o : Oper} {x : Operand} (ho : o.op = .move x ∨ o.op = .assign x) {x' : A} (hc : compA x = some x') {r : Res} (he : bind1 (av σ p x') (un1 (.mov x')) = some r) : Calm P Z w θ a o r := by
  obtain ⟨y, hy, h⟩ := bind1_some he
  simp only [un1] at h
  exact .q h (v := a.eval x) (by rcases ho with ho | ho <;> simp [execOp, ho]) (av_rep hs hp hc hy)

theorem calm_not {o : Oper} {t : TypeId} {x : Operand} (ho : o.op = .unOp .not t x) {x' : A} (hc : compA x = some x') {r : Res} (he : bind1 (av σ p x') (un1 (.not x')) = some r) : Calm P Z w θ a o r := by
  obtain ⟨y, hy, h⟩ := bind1_some he
  have hr := av_rep hs hp hc hy
  cases y <;> simp [un1] at h
  generalize hv : a.eval x = v at hr
  cases hr
  exact .q h (v := .bool _) (by simp [execOp, ho, hv, Op.unary]) (.bool _ _)

theorem calm_neg {o : Oper} {t : TypeId} {x : Operand} (ho : o.op = .unOp .neg t x) {x' : A} (hc : compA x = some x') {r : Res} (he : bind1 (av σ p x') (un1 (.neg x')) = some r) : Calm P Z w θ a o r := by
  obtain ⟨y, hy, h⟩ := bind1_some he
  have hr := av_rep hs hp hc hy
  cases y <;> simp only [un1] at h <;> try (cases h; done)
  generalize hv : a.eval x = v at hr
  cases hr
  exact .q h (v := .int _ _) (by simp [execOp, ho, hv, Op.unary, Op.intArith]) (.int _ _ _)

theorem calm_nilchk {o : Oper} {x : Operand} (ho : o.op = .nilCheck x) {x' : A} (hc : compA x = some x') {r : Res} (he : bind1 (av σ p x') (un1 (.nilchk x')) = some r) : Calm P Z w θ a o r := by
  obtain ⟨y, hy, h⟩ := bind1_some he
  have hr := av_rep hs hp hc hy
  cases y <;> simp only [un1] at h <;> try (cases h; done)
  generalize hv : a.eval x = v at hr
  cases hr
  rename_i b hb
  exact .q h (v := .pointer _) (by simp [execOp, ho, hv]) (.ptr _ _ _ _ hb)

theorem calm_extract {o : Oper} {x : Operand} {i : Nat} (ho : o.op = .extract x i) {x' : A} (hc : compA x = some x') {r : Res} (he : bind1 (av σ p x') (un1 (.extract i x')) = some r) : Calm P Z w θ a o r := by
  obtain ⟨y, hy, h⟩ := bind1_some he
  have hr := av_rep hs hp hc hy
  cases y <;> simp only [un1] at h <;> try (cases h; done)
  split at h <;> try (cases h; done)
  rename_i vs c hcv
  generalize hv : a.eval x = v at hr
  cases hr with
  | tup _ _ us hl ha hh =>
    have hi : i < us.length := by rw [hl]; exact (List.getElem?_eq_some_iff.1 hcv).1
    exact .q h (v := us[i]) (by simp [execOp, ho, hv, Instr.extract, List.getElem?_eq_getElem hi]) (hh i c _ hcv (List.getElem?_eq_getElem hi))

theorem calm_conv {o : Oper} {x : Operand} {s d : TypeId} {u : TypeDesc} {k : IntKind} (ho : o.op = .convert s d x) (hus : P.underlying s = some u) (hud : P.underlying d = some (.int k)) {x' : A} (hc : compA x = some x') {r : Res} (he : bind1 (av σ p x') (un1 (.conv k x')) = some r) : Calm P Z w θ a o r := by
  obtain ⟨y, hy, h⟩ := bind1_some he
  have hr := av_rep hs hp hc hy
  cases y <;> simp only [un1] at h <;> try (cases h; done)
  generalize hv : a.eval x = v at hr
  cases hr
  exact .q h (by simp [execOp, ho, hv, convert, run_underlying hus, run_underlying hud, Conv.intToInt]) (.int _ _ _)

theorem calm_pick {o : Oper} {c x y : Operand} (ho : o.op = .pick c x y) {c' x' y' : A} (hc : compA c = some c') (hx : compA x = some x') (hy : compA y = some y') {k : Nat} (hk : slotOf c' = some k) {r : Res}
    (he : bind1 (av σ p c') (fun vc => bind2 (av σ (p ++ [(k, true)]) x') (av σ (p ++ [(k, false)]) y') (pickV vc)) = some r) : Calm P Z w θ a o r := by
  obtain ⟨vc, hvc, h⟩ := bind1_some he
  obtain ⟨vx, vy, hvx, hvy, h2⟩ := bind2_some h
  have hrc := av_rep hs hp hc hvc
  cases c' with
  | c _ => cases hk
  | t k' =>
    simp [slotOf] at hk; subst hk
    have hcs : c = .tmp k' := by
      cases c <;> simp [compA] at hc
      subst hc; rfl
    subst hcs
    obtain ⟨cc, bx, vy', rfl, rfl, rfl, h3⟩ := pickV_some h2
    have e1 : a.tmps.getD k' undef = .bool cc := by
      generalize hv : a.eval (.tmp k') = v at hrc
      cases hrc; exact hv
    have e2 := getD_bool e1
    have hev : a.eval (.tmp k') = .bool cc := e1
    cases cc with
    | true =>
      have hr := av_rep hs (pathT_app hp e2) hx hvx
      generalize hv : a.eval x = v at hr
      cases hr
      refine .q h3 (v := .bool bx) (by simp [execOp, ho, hev, asBool, hv]) ?_
      exact .bool _ _
    | false =>
      have hr := av_rep hs (pathT_app hp e2) hy hvy
      generalize hv : a.eval y = v at hr
      cases hr
      refine .q h3 (v := .bool vy') (by simp [execOp, ho, hev, asBool, hv]) ?_
      exact .bool _ _

theorem calm_arith {o : Oper} {op : BinOp} {t u : TypeId} {x y : Operand} (ho : o.op = .binOp op t x y u) (hop : isArith op = true) {x' y' : A} (hx : compA x = some x') (hy : compA y = some y') {r : Res}
    (he : bind2 (av σ p x') (av σ p y') (arithR op) = some r) (hpre : ∀ q ∈ r.pre, q) : Calm P Z w θ a o r := by
  obtain ⟨vx, vy, hvx, hvy, h⟩ := bind2_some he
  have hrx := av_rep hs hp hx hvx
  have hry := av_rep hs hp hy hvy
  generalize ex : a.eval x = v1 at hrx
  generalize ey : a.eval y = v2 at hry
  cases hrx <;> simp only [arithR] at h <;> try (cases h; done)
  rename_i k n
  cases hry <;> simp only at h <;> try (cases h; done)
  rename_i k' m
  split at h <;> try (cases h; done)
  rename_i hk; subst hk
  cases op <;> simp only [isArith] at hop <;> try (cases hop; done)
  all_goals simp only at h
  · exact .q h (by simp [execOp, ho, ex, ey, eqGuard, binOp, Op.intArith]) (.int _ _ _)
  · exact .q h (by simp [execOp, ho, ex, ey, eqGuard, binOp, Op.intArith]) (.int _ _ _)
  · exact .q h (by simp [execOp, ho, ex, ey, eqGuard, binOp, Op.intArith]) (.int _ _ _)
  · have hb : m ≠ 0 := by simp [Res.qp] at h; subst h; exact hpre _ (by simp)
    exact .qp h (by simp [execOp, ho, ex, ey, eqGuard, binOp, Op.intDiv, hb]) (.int _ _ _)
  · have hb : m ≠ 0 := by simp [Res.qp] at h; subst h; exact hpre _ (by simp)
    exact .qp h (by simp [execOp, ho, ex, ey, eqGuard, binOp, Op.intDiv, hb]) (.int _ _ _)
  · exact .q h (v := .int k (bitsI .and k n m)) (by simp [execOp, ho, ex, ey, eqGuard, binOp, Op.intBits, bitsI]) (.int _ _ _)
  · exact .q h (v := .int k (bitsI .or k n m)) (by simp [execOp, ho, ex, ey, eqGuard, binOp, Op.intBits, bitsI]) (.int _ _ _)
  · exact .q h (v := .int k (bitsI .xor k n m)) (by simp [execOp, ho, ex, ey, eqGuard, binOp, Op.intBits, bitsI]) (.int _ _ _)
  · exact .q h (v := .int k (bitsI .andNot k n m)) (by simp [execOp, ho, ex, ey, eqGuard, binOp, Op.intBits, bitsI]) (.int _ _ _)


theorem calm_cmpI {o : Oper} {op : BinOp} {t u : TypeId} {x y : Operand} (ho : o.op = .binOp op t x y u) (hop : isCmp op = true) {x' y' : A} (hx : compA x = some x') (hy : compA y = some y') {r : Res}
    (he : bind2 (av σ p x') (av σ p y') (fun v w => toR (cmpR op 0 v w)) = some r) : Calm P Z w θ a o r := by
  obtain ⟨vx, vy, hvx, hvy, h⟩ := bind2_some he
  obtain ⟨z, hz, h4⟩ := toR_some h
  have hrx := av_rep hs hp hx hvx
  have hry := av_rep hs hp hy hvy
  generalize ex : a.eval x = v1 at hrx
  generalize ey : a.eval y = v2 at hry
  cases vx <;> try (cases hz; done)
  cases vy <;> try (cases hz; done)
  cases hrx; cases hry
  rename_i k n k' m
  simp only [cmpR] at hz
  split at hz <;> try (cases hz; done)
  rename_i hk; subst hk
  cases op <;> simp only [isCmp] at hop <;> try (cases hop; done)
  all_goals (simp only [Option.some.injEq] at hz; subst hz)
  · exact .q h4 (v := .bool (n == m)) (by simp [execOp, ho, ex, ey, eqGuard, binOp, Op.intCmp]) (by rw [beq_dec]; exact .bool _ _)
  · exact .q h4 (v := .bool (n != m)) (by simp [execOp, ho, ex, ey, eqGuard, binOp, Op.intCmp]) (by rw [show (n != m) = !decide (n = m) by rw [bne, beq_dec]]; exact .bool _ _)
  all_goals exact .q h4 (v := .bool (decide _)) (by simp [execOp, ho, ex, ey, eqGuard, binOp, Op.intCmp]) (.bool _ _)

theorem calm_cmpB {o : Oper} {op : BinOp} {t u : TypeId} {x y : Operand} (ho : o.op = .binOp op t x y u) (hop : isEq op = true) (hu : P.underlying t = some .bool) {x' y' : A} (hx : compA x = some x') (hy : compA y = some y') {r : Res}
    (he : bind2 (av σ p x') (av σ p y') (fun v w => toR (cmpR op 1 v w)) = some r) : Calm P Z w θ a o r := by
  obtain ⟨vx, vy, hvx, hvy, h⟩ := bind2_some he
  obtain ⟨z, hz, h4⟩ := toR_some h
  have hrx := av_rep hs hp hx hvx
  have hry := av_rep hs hp hy hvy
  generalize ex : a.eval x = v1 at hrx
  generalize ey : a.eval y = v2 at hry
  cases vx <;> try (cases hz; done)
  cases vy <;> try (cases hz; done)
  cases hrx; cases hry
  rename_i n m
  simp only [cmpR] at hz
  cases op <;> simp only [isEq] at hop <;> try (cases hop; done)
  all_goals (simp only [Option.some.injEq] at hz; subst hz)
  · exact .q h4 (v := .bool (n == m)) (by simp [execOp, ho, ex, ey, eqGuard, binOp, run_equal_bool w t n m hu]) (.bool _ _)
  · exact .q h4 (v := .bool (!(n == m))) (by simp [execOp, ho, ex, ey, eqGuard, binOp, run_equal_bool w t n m hu]) (.bool _ _)

theorem calm_cmpS {o : Oper} {op : BinOp} {t u : TypeId} {x y : Operand} (ho : o.op = .binOp op t x y u) (hop : isEq op = true) {x' y' : A} (hx : compA x = some x') (hy : compA y = some y') {r : Res}
    (he : bind2 (av σ p x') (av σ p y') (fun v w => toR (cmpR op 2 v w)) = some r) : Calm P Z w θ a o r := by
  obtain ⟨vx, vy, hvx, hvy, h⟩ := bind2_some he
  obtain ⟨z, hz, h4⟩ := toR_some h
  have hrx := av_rep hs hp hx hvx
  have hry := av_rep hs hp hy hvy
  generalize ex : a.eval x = v1 at hrx
  generalize ey : a.eval y = v2 at hry
  cases vx <;> try (cases hz; done)
  cases vy <;> try (cases hz; done)
  cases hrx; cases hry
  rename_i n m
  simp only [cmpR] at hz
  cases op <;> simp only [isEq] at hop <;> try (cases hop; done)
  all_goals (simp only [Option.some.injEq] at hz; subst hz)
  · exact .q h4 (v := .bool (n == m)) (by simp [execOp, ho, ex, ey, eqGuard, binOp, Op.stringOp, ByteArray.toList_eq]) (by rw [beq_dec]; exact .bool _ _)
  · exact .q h4 (v := .bool (!(n == m))) (by simp [execOp, ho, ex, ey, eqGuard, binOp, Op.stringOp, ByteArray.toList_eq]) (by rw [beq_dec]; exact .bool _ _)

theorem calm_eqa {o : Oper} {op : BinOp} {t u : TypeId} {x y : Operand} (ho : o.op = .binOp op t x y u) (hop : isEq op = true) {sh : List Nat} {d : Nat} (hsh : shapeOf P d t = some sh) (hd : d ≤ 10000) (ha : aggP P t = true) (hg : P.eqGuardType P.depth t = false)
    {x' y' : A} (hx : compA x = some x') (hy : compA y = some y') {neg : Bool} (hn : neg = isNeq op) {r : Res}
    (he : bind2 (av σ p x') (av σ p y') (fun v w => toR (eqaR neg sh v w)) = some r) : Calm P Z w θ a o r := by
  obtain ⟨vx, vy, hvx, hvy, h⟩ := bind2_some he
  obtain ⟨z, hz, h4⟩ := toR_some h
  have hrx := av_rep hs hp hx hvx
  have hry := av_rep hs hp hy hvy
  obtain ⟨v, hv, hrun⟩ := run_eqa hsh hd ha hg hz hrx hry x y
  cases op <;> simp only [isEq] at hop <;> try (cases hop; done)
  all_goals (simp only [isNeq] at hn; subst hn; simp only at hrun)
  all_goals exact .q h4 (v := v) (by simp only [execOp, ho]; rw [Sem.run_bind, hrun]; rfl) hv

theorem run_len {o : Oper} {c : Call} {x : Operand} (ho : o.op = .call c) (hc1 : c.callee = .builtin .len) (hc2 : c.args = #[x]) {res : Value} (h : (Builtin.len_ c.argTypes o.type #[a.eval x]).run P w = .ok res w) : (execOp a.eval o).run P w = .ok (.value res) w := by
  simp [execOp, ho, resolve, hc1, hc2, invoke, builtin, h]

theorem calm_len0 {o : Oper} {c : Call} {x : Operand} (ho : o.op = .call c) (hc1 : c.callee = .builtin .len) (hc2 : c.args = #[x]) {t e : TypeId} (ht : c.argTypes[0]? = some t) (hu : P.underlying t = some (.slice e)) {x' : A} (hx : compA x = some x') {r : Res}
    (he : bind1 (av σ p x') (lenR 0) = some r) : Calm P Z w θ a o r := by
  obtain ⟨y, hy, h⟩ := bind1_some he
  have hr := av_rep hs hp hx hy
  have hrun := fun res => run_len (σ := σ) (P := P) (w := w) hs hp ho hc1 hc2 (res := res)
  generalize hv : a.eval x = v at hr hrun
  cases y <;> try (cases h; done)
  · cases hr with
    | lst _ _ _ ad cap f hc hm hz hat hmem h1 hh =>
      simp only [lenR, Option.some.injEq] at h; subst h
      refine ⟨rfl, rfl, ?_, _, hrun _ ?_, .int _ _ _⟩
      · intro q hq
        simp only [List.mem_singleton] at hq
        subst hq
        unfold maxLen at hm
        omega
      · simp [Builtin.len_, ht, run_underlying hu, goInt]
  · cases hr with
    | sv _ _ _ _ _ ad n c a' c' hθ h1 h2 h3 h4 h5 =>
      simp only [lenR, Option.some.injEq] at h; subst h
      refine ⟨rfl, rfl, ?_, _, hrun _ ?_, .int _ _ _⟩
      · intro q hq
        simp only [List.mem_singleton] at hq
        subst hq
        unfold maxLen at h5
        omega
      · simp [Builtin.len_, ht, run_underlying hu, goInt]
  · cases hr
    simp only [lenR, Res.q, Option.some.injEq] at h; subst h
    exact ⟨rfl, rfl, by simp, _, hrun (.int .i64 0) (by simp [Builtin.len_, ht, run_underlying hu, goInt]), .int _ _ _⟩

theorem calm_len1 {o : Oper} {c : Call} {x : Operand} (ho : o.op = .call c) (hc1 : c.callee = .builtin .len) (hc2 : c.args = #[x]) {t : TypeId} (ht : c.argTypes[0]? = some t) (hu : P.underlying t = some .string) {x' : A} (hx : compA x = some x') {r : Res}
    (he : bind1 (av σ p x') (lenR 1) = some r) : Calm P Z w θ a o r := by
  obtain ⟨y, hy, h⟩ := bind1_some he
  have hr := av_rep hs hp hx hy
  have hrun := fun res => run_len (σ := σ) (P := P) (w := w) hs hp ho hc1 hc2 (res := res)
  generalize hv : a.eval x = v at hr hrun
  cases y <;> try (cases h; done)
  cases hr
  rename_i s
  simp only [lenR, Res.q, Option.some.injEq] at h; subst h
  exact ⟨rfl, rfl, by simp, _, hrun (.int .i64 s.length) (by simp only [Builtin.len_, ht, List.getElem?_toArray, List.getElem?_cons_zero, Sem.run_bind, run_underlying hu, Result.andThen_ok]; rfl), .int _ _ _⟩

theorem run_minmax (mx : Bool) : ∀ (xs : List AV) (vs : List Value) (x r : AV) (v : Value), Reps Z w θ xs vs → Rep Z w θ x v → minmaxL mx x xs = some r →
    ∃ u, (vs.foldlM (match mx with | true => Builtin.max2 | false => Builtin.min2) v).run P w = .ok u w ∧ Rep Z w θ r u
  | [], vs, x, r, v, hvs, hx, h => by
    have : vs = [] := List.eq_nil_of_length_eq_zero hvs.len
    subst this
    simp [minmaxL] at h; subst h
    exact ⟨v, by simp, hx⟩
  | y :: xs, vs, x, r, v, hvs, hx, h => by
    cases vs with
    | nil => have := hvs.len; simp at this
    | cons u vs =>
      have hy := hvs.rep 0 y u rfl rfl
      have hrest : Reps Z w θ xs vs := ⟨by have := hvs.len; simpa using this, fun i c w' h1 h2 => hvs.rep (i + 1) c w' (by simpa using h1) (by simpa using h2)⟩
      unfold minmaxL at h
      split at h <;> try (cases h; done)
      rename_i x' hx'
      cases x <;> try (cases hx'; done)
      cases y <;> try (cases hx'; done)
      cases hx; cases hy
      rename_i k n k' m
      simp only [minmaxR] at hx'
      split at hx' <;> try (cases hx'; done)
      rename_i hk; subst hk
      simp only [Option.some.injEq] at hx'; subst hx'
      obtain ⟨u, hu, hr⟩ := run_minmax mx xs vs _ r _ hrest (.int θ _ _) h
      refine ⟨u, ?_, hr⟩
      cases mx
      · simp only [List.foldlM_cons, Sem.run_bind, Builtin.min2, Sem.run_pure, Result.andThen_ok]
        exact hu
      · simp only [List.foldlM_cons, Sem.run_bind, Builtin.max2, Sem.run_pure, Result.andThen_ok]
        exact hu

theorem calm_minmax {o : Oper} {c : Call} {mx : Bool} (ho : o.op = .call c) (hc1 : c.callee = .builtin (match mx with | true => .max | false => .min)) {xs' : List A} (hx : compAs c.args.toList = some xs') {r : Res}
    (he : (match avs σ p xs' with
      | some (.int k n :: vs) => toR (minmaxL mx (.int k n) vs)
      | _ => none) = some r) : Calm P Z w θ a o r := by
  split at he <;> try (cases he; done)
  rename_i k n vs hvs
  obtain ⟨z, hz, h4⟩ := toR_some he
  have hr := avs_reps hs hp hx hvs
  generalize hv : c.args.toList.map a.eval = us at hr
  cases us with
  | nil => have := hr.len; simp at this
  | cons u us =>
    have hu := hr.rep 0 _ u rfl rfl
    have hrest : Reps Z w θ vs us := ⟨by have := hr.len; simpa using this, fun i c w' h1 h2 => hr.rep (i + 1) c w' (by simpa using h1) (by simpa using h2)⟩
    obtain ⟨v, hrun, hv'⟩ := run_minmax (σ := σ) (P := P) hs hp mx vs us _ z u hrest hu hz
    have hargs : (c.args.map a.eval).toList = u :: us := by simpa using hv
    refine .q h4 (v := v) ?_ hv'
    cases mx
    · simp only [execOp, ho, resolve, hc1, invoke, builtin, Sem.run_bind, Sem.run_pure, Result.andThen_ok, Builtin.min_, hargs]
      rw [hrun]; rfl
    · simp only [execOp, ho, resolve, hc1, invoke, builtin, Sem.run_bind, Sem.run_pure, Result.andThen_ok, Builtin.max_, hargs]
      rw [hrun]; rfl

end
end Go.Ev
