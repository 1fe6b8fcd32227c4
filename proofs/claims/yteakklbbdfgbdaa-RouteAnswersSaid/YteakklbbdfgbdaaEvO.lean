/- A part of the proof: symbolic evaluation of the program's functions, proved sound against the model; no condition. -/
/-
  The framework 'Ev', part O: buffers that are lent to a reader; calls by contract.
  Conditions: none; a text of lemmas.
-/
import Derived.Test.YteakklbbdfgbdaaEvH
import Derived.Test.YteakklbbdfgbdaaEvN
namespace Go.Ev
open Go Go.RowKit
set_option linter.unusedVariables false
set_option linter.unusedSectionVars false
set_option linter.unusedSimpArgs false

theorem Goes.wider {Z Z' : Nat → Prop} (w : World) (h : ∀ b, Z b → Z' b) : Goes Z w Z' w := ⟨h, fun _ _ => rfl⟩

theorem Rep.flat0 {Z Z' : Nat → Prop} {w w' : World} {θ θ' : Nat → Value} {x : AV} {v : Value} (hx : x.flat0 = true) (h : Rep Z w θ x v) : Rep Z' w' θ' x v := by
  cases h <;> simp [AV.flat0] at hx
  · exact .int _ _ _
  · exact .bool _ _
  · exact .str _ _
  · exact .fn _ _
  · exact .nil _
theorem Cells.flat {Z Z' : Nat → Prop} {w w' : World} {θ θ' : Nat → Value} {cs : List AV} {vs : List Value} (hx : cs.all AV.flat0 = true) (h : Cells Z w θ cs vs) : Cells Z' w' θ' cs vs :=
  ⟨h.len, h.at1, h.one, fun i c v hc hv => (h.rep i c v hc hv).flat0 (List.all_eq_true.1 hx c (List.mem_of_getElem? hc))⟩
theorem Rep.flat1 {Z Z' : Nat → Prop} {w w' : World} {θ θ' : Nat → Value} {x : AV} {v : Value} (hx : x.flat1 = true) (h : Rep Z w θ x v) : Rep Z' w' θ' x v := by
  cases x with
  | agg cs =>
    obtain ⟨vs, rfl, hc⟩ := h.cells
    exact (hc.flat hx).agg
  | _ => exact h.flat0 hx
theorem Rep.flat2 {Z Z' : Nat → Prop} {w w' : World} {θ θ' : Nat → Value} {x : AV} {v : Value} (hx : x.flat2 = true) (h : Rep Z w θ x v) : Rep Z' w' θ' x v := by
  cases x with
  | tup cs =>
    cases h with
    | tup _ _ vs hl ha h =>
      simp only [AV.flat2, List.all_eq_true] at hx
      exact .tup θ' cs vs hl ha fun i c v hc hv => (h i c v hc hv).flat1 (hx c (List.mem_of_getElem? hc))
  | _ => exact h.flat1 hx

section
variable {X : Cx} {Z Z' : Nat → Prop} {w : World} {θ : Nat → Value} {m : Nat → Option Blk}

theorem rep_empty (Z : Nat → Prop) (w : World) (θ : Nat → Value) (z : List AV) (a : Option Addr) {c : Nat} (hc : c ≤ maxLen) : Rep Z w θ (.lst z []) (.slice a 0 c) :=
  .lst θ z [] a c (fun _ _ => undef) (by simp) hc (by simp) (by simp) (by simp) (by simp [cellAt]) (by simp [cellAt])

/-- A buffer as a list. -/
theorem buf_lst (hm : Mem X Z w θ m) {r T : Nat} {z : List AV} {es : List (List AV)} (hr : m r = some (.buf T z es)) (hz : ∀ b, Z b → Z' b) (hb : ∀ b, bk (θ r) = some b → Z' b) (θ' : Nat → Value) : Rep Z' w θ' (.lst z es) (θ r) := by
  obtain ⟨hz0, hrows, xs, hown, _, hc⟩ := hm.brep r _ hr
  rcases hown.2 with ⟨h, hn⟩ | ⟨g, cap, cur, h, _, hg, hnc, hcm, hcs, htake⟩
  · rw [h]
    have : es = [] := List.eq_nil_of_length_eq_zero hn
    subst this
    exact rep_empty _ _ _ _ _ (by unfold maxLen; omega)
  · rw [h] at hown hb ⊢
    refine rep_lst hrows (hc.step (Goes.wider w hz)) hnc hcm (hb g rfl) fun j v hj => ?_
    have := hown.cells (g := g) rfl j v hj
    rw [add_none] at this
    rw [show j = 0 + j by omega]; exact this
/-- A part of a buffer as a list. -/
theorem part_lst (hm : Mem X Z w θ m) {r T lo hi : Nat} {z : List AV} {es : List (List AV)} (hr : m r = some (.buf T z es)) (hz : ∀ b, Z b → Z' b) (hb : ∀ b, bk (θ r) = some b → Z' b) (θ' : Nat → Value) {v : Value} (h : Rep Z w θ (.sv r z.length lo hi) v) :
    Rep Z' w θ' (.lst z ((es.drop lo).take (hi - lo))) v := by
  obtain ⟨hz0, hrows, xs, hown, _, hc⟩ := hm.brep r _ hr
  have hrd := reads_part hm hr h
  cases h with
  | sv _ _ _ _ _ a n c a' c' hθ h1 h2 h3 h4 h5 =>
    obtain ⟨hpr, ad, cc, news, hv, hne, hl, hcell, hcs⟩ := hrd
    simp only [Value.slice.injEq] at hv
    obtain ⟨rfl, hlen, rfl⟩ := hv
    rcases Nat.lt_or_ge lo hi with hlt | hge
    · obtain ⟨g, e1, e2⟩ := h3 hlt
      subst e1; subst e2
      generalize hes : (es.drop lo).take (hi - lo) = es' at *
      rw [hlen]
      refine rep_lst_at hpr (hcs.step (Goes.wider w hz)) (by omega) h5 (hb g (by rw [hθ]; rfl)) fun j v hj => ?_
      have := hcell _ rfl j v hj
      rw [add_none] at this
      exact this
    · have e0 : hi - lo = 0 := by omega
      rw [e0] at h4 ⊢
      simp only [List.take_zero]
      exact rep_empty _ _ _ _ _ h5

theorem lendA_rep (hm : Mem X Z w θ m) (hz : ∀ b, Z b → Z' b) {x y : AV} {v : Value} {bs : List Nat} (h : Rep Z w θ x v) (e : lendA m x = some (y, bs)) (hb : ∀ r ∈ bs, ∀ b, bk (θ r) = some b → Z' b) : Rep Z' w th0 y v ∧ y.clean0 = true := by
  unfold lendA at e
  split at e
  · rename_i r a b c
    unfold lendB at e
    split at e <;> try (cases e; done)
    rename_i T z es hr
    simp only [Option.some.injEq, Prod.mk.injEq] at e
    obtain ⟨rfl, rfl⟩ := e
    cases h with
    | vw _ _ _ _ _ a' n' c' hθ =>
      rw [← hθ]
      exact ⟨buf_lst hm hr hz (hb r (by simp)) th0, rfl⟩
  · rename_i r sz lo hi
    unfold lendP at e
    split at e <;> try (cases e; done)
    rename_i T z es hr
    split at e <;> try (cases e; done)
    rename_i hsz
    have hsz : z.length = sz := by simpa using hsz
    subst hsz
    simp only [Option.some.injEq, Prod.mk.injEq] at e
    obtain ⟨rfl, rfl⟩ := e
    exact ⟨part_lst hm hr hz (hb r (by simp)) th0 h, rfl⟩
  all_goals first | (cases e; done) | (simp only [Option.some.injEq, Prod.mk.injEq] at e; obtain ⟨rfl, rfl⟩ := e; exact ⟨(h.step (Goes.wider w hz)).th_clean0 rfl th0, rfl⟩)

theorem consL_some {x : Option (AV × List Nat)} {y : Option (List AV × List Nat)} {ys : List AV} {bs : List Nat} (h : consL x y = some (ys, bs)) : ∃ v b vs b', x = some (v, b) ∧ y = some (vs, b') ∧ ys = v :: vs ∧ bs = b ++ b' := by
  unfold consL at h
  split at h <;> simp at h
  obtain ⟨rfl, rfl⟩ := h
  exact ⟨_, _, _, _, rfl, rfl, rfl, rfl⟩

theorem lendC_cells (hm : Mem X Z w θ m) (hz : ∀ b, Z b → Z' b) : ∀ {xs ys : List AV} {vs : List Value} {bs : List Nat}, Cells Z w θ xs vs → lendC m xs = some (ys, bs) → (∀ r ∈ bs, ∀ b, bk (θ r) = some b → Z' b) → Cells Z' w th0 ys vs ∧ ys.all AV.clean0 = true
  | [], ys, vs, bs, h, e, hb => by
    simp only [lendC, Option.some.injEq, Prod.mk.injEq] at e
    obtain ⟨rfl, rfl⟩ := e
    have hl := h.len
    cases vs with
    | nil => exact ⟨.nil _ _ _, rfl⟩
    | cons _ _ => simp at hl
  | x :: xs, ys, vs, bs, h, e, hb => by
    simp only [lendC] at e
    obtain ⟨y, b1, ys', b2, e1, e2, rfl, rfl⟩ := consL_some e
    cases vs with
    | nil => have := h.len; simp at this
    | cons u us =>
      have hrest : Cells Z w θ xs us := by have := h.drop 1; simpa using this
      have h1 := lendA_rep hm hz (h.rep 0 x u rfl rfl) e1 (fun r hr => hb r (by simp [hr]))
      have h2 := lendC_cells hm hz hrest e2 (fun r hr => hb r (by simp [hr]))
      exact ⟨Cells.append (Cells.one' h1.1 (clean0_atom h1.2) (h.one u (by simp))) h2.1, by simp only [List.all_cons, h1.2, h2.2, Bool.and_self]⟩

theorem lend1_rep (hm : Mem X Z w θ m) (hz : ∀ b, Z b → Z' b) {x y : AV} {v : Value} {bs : List Nat} (h : Rep Z w θ x v) (e : lend1 m x = some (y, bs)) (hb : ∀ r ∈ bs, ∀ b, bk (θ r) = some b → Z' b) : Rep Z' w th0 y v ∧ y.clean1 = true := by
  have key : lendA m x = some (y, bs) → Rep Z' w th0 y v ∧ y.clean1 = true := fun e => by
    have := lendA_rep hm hz h (by simpa only [lend1] using e) hb
    refine ⟨this.1, ?_⟩
    have h2 := this.2
    cases y <;> first | exact h2 | simp [AV.clean0] at h2
  cases x with
  | agg cs =>
    simp only [lend1] at e
    obtain ⟨vs, rfl, hc⟩ := h.cells
    cases hl : lendC m cs with
    | none => rw [hl] at e; cases e
    | some q =>
      obtain ⟨ys, b⟩ := q
      rw [hl] at e
      simp only [aggL, Option.some.injEq, Prod.mk.injEq] at e
      obtain ⟨rfl, rfl⟩ := e
      have := lendC_cells hm hz hc hl hb
      exact ⟨this.1.agg, this.2⟩
  | _ => exact key e

theorem lends_reps (hm : Mem X Z w θ m) (hz : ∀ b, Z b → Z' b) : ∀ {xs ys : List AV} {vs : List Value} {bs : List Nat}, Reps Z w θ xs vs → lends m xs = some (ys, bs) → (∀ r ∈ bs, ∀ b, bk (θ r) = some b → Z' b) → Reps Z' w th0 ys vs
  | [], ys, vs, bs, h, e, hb => by
    simp only [lends, Option.some.injEq, Prod.mk.injEq] at e
    obtain ⟨rfl, rfl⟩ := e
    exact ⟨h.len, by simp⟩
  | x :: xs, ys, vs, bs, h, e, hb => by
    simp only [lends] at e
    obtain ⟨y, b1, ys', b2, e1, e2, rfl, rfl⟩ := consL_some e
    cases vs with
    | nil => have := h.len; simp at this
    | cons u us =>
      have hrest : Reps Z w θ xs us := ⟨by have := h.len; simpa using this, fun i c v hi hv => h.rep (i + 1) c v (by simpa using hi) (by simpa using hv)⟩
      have h1 := lend1_rep hm hz (h.rep 0 x u rfl rfl) e1 (fun r hr => hb r (by simp [hr]))
      have h2 := lends_reps hm hz hrest e2 (fun r hr => hb r (by simp [hr]))
      refine ⟨by simp [h2.len], fun i c v hi hv => ?_⟩
      cases i with
      | zero => simp only [List.getElem?_cons_zero, Option.some.injEq] at hi hv; subst hi; subst hv; exact h1.1
      | succ i => simp only [List.getElem?_cons_succ] at hi hv; exact h2.rep i c v hi hv

/-- What is lent is kept: it is a buffer. -/
def Lent (m : Nat → Option Blk) (bs : List Nat) : Prop := ∀ r ∈ bs, ∃ T z es, m r = some (.buf T z es)
theorem lendA_lent {x y : AV} {bs : List Nat} (e : lendA m x = some (y, bs)) : Lent m bs := by
  unfold lendA at e
  split at e
  · rename_i r a b c
    unfold lendB at e
    split at e <;> try (cases e; done)
    rename_i T z es hr
    simp only [Option.some.injEq, Prod.mk.injEq] at e
    obtain ⟨_, rfl⟩ := e
    intro r' hr'
    simp only [List.mem_singleton] at hr'
    subst hr'
    exact ⟨_, _, _, hr⟩
  · rename_i r sz lo hi
    unfold lendP at e
    split at e <;> try (cases e; done)
    rename_i T z es hr
    split at e <;> try (cases e; done)
    simp only [Option.some.injEq, Prod.mk.injEq] at e
    obtain ⟨_, rfl⟩ := e
    intro r' hr'
    simp only [List.mem_singleton] at hr'
    subst hr'
    exact ⟨_, _, _, hr⟩
  all_goals first | (cases e; done) | (simp only [Option.some.injEq, Prod.mk.injEq] at e; obtain ⟨_, rfl⟩ := e; intro r hr; cases hr)
theorem Lent.app {b1 b2 : List Nat} (h1 : Lent m b1) (h2 : Lent m b2) : Lent m (b1 ++ b2) := fun r hr => (List.mem_append.1 hr).elim (h1 r) (h2 r)
theorem lendC_lent : ∀ {xs ys : List AV} {bs : List Nat}, lendC m xs = some (ys, bs) → Lent m bs
  | [], ys, bs, e => by
    simp only [lendC, Option.some.injEq, Prod.mk.injEq] at e
    obtain ⟨_, rfl⟩ := e
    intro r hr; cases hr
  | x :: xs, ys, bs, e => by
    simp only [lendC] at e
    obtain ⟨y, b1, ys', b2, e1, e2, rfl, rfl⟩ := consL_some e
    exact (lendA_lent e1).app (lendC_lent e2)
theorem lend1_lent {x y : AV} {bs : List Nat} (e : lend1 m x = some (y, bs)) : Lent m bs := by
  cases x with
  | agg cs =>
    simp only [lend1] at e
    cases hl : lendC m cs with
    | none => rw [hl] at e; cases e
    | some q =>
      obtain ⟨ys, b⟩ := q
      rw [hl] at e
      simp only [aggL, Option.some.injEq, Prod.mk.injEq] at e
      obtain ⟨_, rfl⟩ := e
      exact lendC_lent hl
  | _ => exact lendA_lent (m := m) (by simpa only [lend1] using e)
theorem lends_lent : ∀ {xs ys : List AV} {bs : List Nat}, lends m xs = some (ys, bs) → Lent m bs
  | [], ys, bs, e => by
    simp only [lends, Option.some.injEq, Prod.mk.injEq] at e
    obtain ⟨_, rfl⟩ := e
    intro r hr; cases hr
  | x :: xs, ys, bs, e => by
    simp only [lends] at e
    obtain ⟨y, b1, ys', b2, e1, e2, rfl, rfl⟩ := consL_some e
    exact (lend1_lent e1).app (lends_lent e2)

/-- The blocks behind what is lent. -/
def lentZ (θ : Nat → Value) (bs : List Nat) (Z : Nat → Prop) : Nat → Prop := fun b => Z b ∨ ∃ r ∈ bs, bk (θ r) = some b
theorem lentZ_lt (hm : Mem X Z w θ m) {bs : List Nat} (hl : Lent m bs) : ∀ b, lentZ θ bs Z b → b < w.heap.size := by
  rintro b (h | ⟨r, hr, hb⟩)
  · exact hm.zlt b h
  · obtain ⟨T, z, es, he⟩ := hl r hr
    exact hm.lt he hb
theorem lentZ_not (hm : Mem X Z w θ m) {bs : List Nat} (hl : Lent m bs) {r0 b : Nat} {cs : List AV} (h0 : m r0 = some (.cells cs)) (hb : bk (θ r0) = some b) (hnZ : ¬ Z b) : ¬ lentZ θ bs Z b := by
  rintro (h | ⟨r, hr, hb'⟩)
  · exact hnZ h
  · obtain ⟨T, z, es, he⟩ := hl r hr
    have := hm.disj r0 r b (by rw [h0]; rfl) (by rw [he]; rfl) hb hb'
    subst this
    rw [h0] at he; cases he
end

/-- What is lent is taken back. -/
theorem back_rep {Z Z2 : Nat → Prop} {w w' : World} {θ : Nat → Value} {bs : List Nat} (hg : Grow (lentZ θ bs Z) w Z2 w') : (∀ b, Z b → Z2 b ∧ (Z b ∨ w.heap.size ≤ b)) ∧ (bs = [] → ∀ b, Z2 b → Z2 b ∧ (Z b ∨ w.heap.size ≤ b)) := by
  refine ⟨fun b h => ⟨hg.sub b (.inl h), .inl h⟩, fun e b h => ⟨h, ?_⟩⟩
  subst e
  rcases hg.new b h with (h1 | ⟨r, hr, _⟩) | h1
  · exact .inl h1
  · cases hr
  · exact .inr h1

section
variable {P : Program} {X : Cx} {Z : Nat → Prop} {w : World} {θ : Nat → Value} {a : Act} {σ : St} {p : List (Nat × Bool)}

theorem run_call {o : Oper} {c : Call} {f : Nat} (ho : o.op = .call c) (hc : c.callee = .value (.func f)) {fn : Func} (hf : P.funcs[f]? = some fn) (hb : fn.body.isSome = true) (hn : (fn.name == "runtime.NumGoroutine") = false) :
    (execOp a.eval o).run P w = .ok (.enter f (c.args.map a.eval)) w := by
  have hb' : fn.body.isNone = false := by
    cases h : fn.body with
    | none => rw [h] at hb; cases hb
    | some _ => rfl
  have hn' : ¬ fn.name = "runtime.NumGoroutine" := by simpa using hn
  have hb'' : ¬ fn.body = none := by rintro h; rw [h] at hb'; cases hb'
  simp [execOp, ho, resolve, hc, Act.eval, Deferred.ofValue, invoke, callFunc, hf, hn', hb'']
theorem run_callv {o : Oper} {c : Call} {f : Nat} {t : Nat} (ho : o.op = .call c) (hc : c.callee = .value (.tmp t)) (hv : a.eval (.tmp t) = .func (.func f) #[] #[]) {fn : Func} (hf : P.funcs[f]? = some fn) (hb : fn.body.isSome = true) (hn : (fn.name == "runtime.NumGoroutine") = false) :
    (execOp a.eval o).run P w = .ok (.enter f (c.args.map a.eval)) w := by
  have hb' : fn.body.isNone = false := by
    cases h : fn.body with
    | none => rw [h] at hb; cases hb
    | some _ => rfl
  have hn' : ¬ fn.name = "runtime.NumGoroutine" := by simpa using hn
  have hb'' : ¬ fn.body = none := by rintro h; rw [h] at hb'; cases hb'
  simp [execOp, ho, resolve, hc, hv, Deferred.ofValue, invoke, callFunc, hf, hn', hb'']

/-- A call of a function whose outcome is told. -/
theorem ok_enter {o : Oper} {f d : Nat} (hm : Mem X Z w θ σ.m) {args : Array Value} (hrun : (execOp a.eval o).run P w = .ok (.enter f args) w) {xs : List AV} (hreps : Reps Z w θ xs args.toList)
    {C : Option Ctr} (hC : ∀ C', C = some C' → Sound P f C') {r : Res} (he : callR σ.m C xs = some r) (hpre : ∀ q ∈ r.pre, q) : OpOK P X Z w θ σ.m a o d r := by
  unfold callR at he
  split at he
  · rename_i fn
    have hS := hC _ rfl
    cases hl : lends σ.m xs with
    | none => rw [hl] at he; cases he
    | some q =>
      obtain ⟨ys, bs⟩ := q
      rw [hl] at he
      simp only [callN] at he
      cases hfn : fn [] ys with
      | none => rw [hfn] at he; cases he
      | some q =>
        obtain ⟨q, rv, cs'⟩ := q
        rw [hfn] at he
        simp only [callP] at he
        split at he <;> try (cases he; done)
        rename_i hcl
        simp only [Bool.and_eq_true] at hcl
        simp only [Option.some.injEq] at he; subst he
        have hlent := lends_lent hl
        intro K Q hK
        unfold Oper.wp
        rw [hrun, Oper.upon_enter]
        have hargs : args = args.toList.toArray := by simp
        rw [hargs]
        refine (hS (lentZ θ bs Z) w ys args.toList q rv cs' (lentZ_lt hm hlent) (lends_reps hm (fun _ h => .inl h) hreps hl (fun r hr b hb => .inr ⟨r, hr, hb⟩)) hfn (hpre q (by simp))).mono ?_
        rintro e w' ⟨v, Z2, rfl, hfr, hgr, hrep⟩
        obtain ⟨hz1, hz2⟩ := back_rep hgr
        have hst := hm.stepW (w' := w') (m' := σ.m) (Z' := fun b => Z2 b ∧ (Z b ∨ w.heap.size ≤ b)) none hz1 (fun b h => h.2) (fun b h => hgr.lt b h.1) hfr.os hfr.tape hfr.output hfr.size (fun k hk _ => hfr.block k hk (by simp)) (fun _ _ => rfl) (fun r h => by cases h)
        refine hK v (fun b => Z2 b ∧ (Z b ∨ w.heap.size ≤ b)) w' θ ⟨?_, hst.2, fun _ _ => rfl, hst.1, by simp⟩
        cases bs with
        | nil => exact (hrep.step (Goes.wider w' (hz2 rfl))).of_th0 rfl θ
        | cons b0 bs0 => exact hrep.flat2 hcl.2
  · rename_i fn
    have hS := hC _ rfl
    split at he <;> try (cases he; done)
    rename_i r0 zs
    unfold callC at he
    split at he <;> try (cases he; done)
    rename_i cs hmr
    cases hl : lends σ.m zs with
    | none => rw [hl] at he; cases he
    | some q =>
      obtain ⟨ys, bs⟩ := q
      rw [hl] at he
      simp only [callB] at he
      split at he <;> try (cases he; done)
      rename_i hcc
      cases hfn : fn cs ys with
      | none => rw [hfn] at he; cases he
      | some q =>
        obtain ⟨q, rv, cs'⟩ := q
        rw [hfn] at he
        simp only [callS] at he
        split at he <;> try (cases he; done)
        rename_i hcl
        simp only [Bool.and_eq_true] at hcl
        obtain ⟨hrc, hcc', hbk⟩ := hcl
        simp only [Option.some.injEq] at he; subst he
        have hlent := lends_lent hl
        obtain ⟨b, T, us, hθ, hheap, hnZ, hcells⟩ := hm.brep r0 _ hmr
        generalize hev : args.toList = evs at hreps
        cases evs with
        | nil => have := hreps.len; simp at this
        | cons v0 evs =>
          have h0 := hreps.rep 0 _ v0 rfl rfl
          have hrest : Reps Z w θ zs evs := ⟨by have := hreps.len; simpa using this, fun i c w' h1 h2 => hreps.rep (i + 1) c w' (by simpa using h1) (by simpa using h2)⟩
          cases h0 with
          | ptr _ _ _ b' hθ' =>
            rw [hθ] at hθ'; simp at hθ'; subst hθ'
            intro K Q hK
            unfold Oper.wp
            rw [hrun, Oper.upon_enter]
            have hargs : args = (pt b :: evs).toArray := by
              apply Array.ext'; simp [hev]
            rw [hargs]
            have hnl := lentZ_not hm hlent hmr (by rw [hθ]; rfl) hnZ
            refine (hS (lentZ θ bs Z) w b T cs us ys evs q rv cs' (lentZ_lt hm hlent) hheap hnl ((hcells.step (Goes.wider w (fun _ h => .inl h))).th_clean hcc th0) (lends_reps hm (fun _ h => .inl h) hrest hl (fun r hr b hb => .inr ⟨r, hr, hb⟩)) hfn (hpre q (by simp))).mono ?_
            rintro e w' ⟨v, Z2, T', us', rfl, hfr, hgr, hheap', hcells', hrep⟩
            obtain ⟨hz1, hz2⟩ := back_rep hgr
            have hnZ' : ¬ Z2 b := by
              intro hb'
              rcases hgr.new b hb' with h | h
              · exact hnl h
              · have := lt_of_get hheap; omega
            have hflat : Rep (fun b => Z2 b ∧ (Z b ∨ w.heap.size ≤ b)) w' θ rv v ∧ Cells (fun b => Z2 b ∧ (Z b ∨ w.heap.size ≤ b)) w' θ cs' us' := by
              cases bs with
              | nil => exact ⟨(hrep.step (Goes.wider w' (hz2 rfl))).of_th0 rfl θ, (hcells'.step (Goes.wider w' (hz2 rfl))).of_th0 θ⟩
              | cons b0 bs0 =>
                simp only [backOK, Bool.and_eq_true] at hbk
                exact ⟨hrep.flat2 hbk.1, hcells'.flat hbk.2⟩
            have hst := hm.stepW (w' := w') (m' := updL σ.m [(r0, .cells cs')]) (Z' := fun b => Z2 b ∧ (Z b ∨ w.heap.size ≤ b)) (some r0) hz1 (fun b h => h.2) (fun b h => hgr.lt b h.1) hfr.os hfr.tape hfr.output hfr.size (fun k hk hne => hfr.block k hk (by
                intro e; simp only [Option.some.injEq] at e; subst e; exact hne r0 rfl (by rw [hθ]; rfl))) (fun r' hr' => by
                have : r' ≠ r0 := fun e => hr' (by rw [e])
                simp [updL, updM, this]) (fun r' hr' => by
                simp only [Option.some.injEq] at hr'; subst hr'
                refine ⟨by simp [hmr], fun blk hblk => ?_⟩
                simp [updL, updM] at hblk
                subst hblk
                exact ⟨b, T', us', hθ, hheap', fun h => hnZ' h.1, hflat.2⟩)
            exact hK v _ w' θ ⟨hflat.1, hst.2, fun _ _ => rfl, hst.1, by simp⟩
  · cases he

theorem flat_flatten {es : List (List AV)} (h : FlatE es) : es.flatten.all AV.flat0 = true := by
  rw [List.all_eq_true]
  intro c hc
  obtain ⟨e, he, hce⟩ := List.mem_flatten.1 hc
  exact List.all_eq_true.1 (h e he) c hce
/-- A call that hands back a slice of its own. -/
theorem ok_own {o : Oper} {f d : Nat} (hm : Mem X Z w θ σ.m) {args : Array Value} (hrun : (execOp a.eval o).run P w = .ok (.enter f args) w) {xs : List AV} (hreps : Reps Z w θ xs args.toList)
    {T : Nat} {z : List AV} {fn : List AV → Option (Prop × List (List AV))} (hS : Sound P f (.own T z fn)) {r : Res} (he : ownW d T z fn (lends σ.m xs) = some r) (hpre : ∀ q ∈ r.pre, q) : OpOK P X Z w θ σ.m a o d r := by
  cases hl : lends σ.m xs with
  | none => rw [hl] at he; cases he
  | some q =>
    obtain ⟨ys, bs⟩ := q
    rw [hl] at he
    simp only [ownW] at he
    cases hfn : fn ys with
    | none => rw [hfn] at he; cases he
    | some q =>
      obtain ⟨q, es⟩ := q
      rw [hfn] at he
      simp only [Option.some.injEq] at he; subst he
      have hlent := lends_lent hl
      have hfl := hpre (backF bs es) (by simp)
      intro K Q hK
      unfold Oper.wp
      rw [hrun, Oper.upon_enter]
      have hargs : args = args.toList.toArray := by simp
      rw [hargs]
      refine (hS (lentZ θ bs Z) w ys args.toList q es (lentZ_lt hm hlent) (lends_reps hm (fun _ h => .inl h) hreps hl (fun r hr b hb => .inr ⟨r, hr, hb⟩)) hfn (hpre q (by simp))).mono ?_
      rintro e w' ⟨v, Z2, rfl, hfr, hgr, hrow⟩
      obtain ⟨hz1, hz2⟩ := back_rep hgr
      have hst := hm.stepW (w' := w') (m' := σ.m) (Z' := fun b => Z2 b ∧ (Z b ∨ w.heap.size ≤ b)) none hz1 (fun b h => h.2) (fun b h => hgr.lt b h.1) hfr.os hfr.tape hfr.output hfr.size (fun k hk _ => hfr.block k hk (by simp)) (fun _ _ => rfl) (fun r h => by cases h)
      obtain ⟨us, hown, hcs⟩ := hrow.own
      have hcs' : Cells (fun b => Z2 b ∧ (Z b ∨ w.heap.size ≤ b)) w' th0 es.flatten us := by
        cases bs with
        | nil => exact hcs.step (Goes.wider w' (hz2 rfl))
        | cons b0 bs0 => exact hcs.flat (flat_flatten hfl)
      obtain ⟨ad, n, c, rfl⟩ := hrow.sl
      refine hK _ (fun b => Z2 b ∧ (Z b ∨ w.heap.size ≤ b)) w' (fun k => if k = 64 * d + 64 then .slice ad n c else θ k) ⟨.vw _ _ _ _ _ _ _ _ (by simp), hst.2, fun k hk => ?_, ?_, by simp⟩
      · have := hk _ _ rfl
        simp [this]
      · refine hst.1.put1 (64 * d + 64) _ (.buf T z es) (by omega) ?_ ?_ ?_
        · refine ⟨hrow.z0, hrow.rows, us, by simpa using hown, ?_, hcs'⟩
          intro b hb hzb
          simp only [if_true] at hb
          exact (hrow.new b hb).2 hzb.1
        · intro r' blk' _ hr' b hb hb2
          have := (hrow.new b hb).1
          have := hm.lt hr' hb2
          omega
        · intro b hb
          have := (hrow.new b hb).1
          have := hm.frame.size
          omega
/-- A call, by whatever contract. -/
theorem ok_enterE {o : Oper} {f d : Nat} (hm : Mem X Z w θ σ.m) {args : Array Value} (hrun : (execOp a.eval o).run P w = .ok (.enter f args) w) {xs : List AV} (hreps : Reps Z w θ xs args.toList)
    {C : Option Ctr} (hC : ∀ C', C = some C' → Sound P f C') {r : Res} (he : callE d σ.m C xs = some r) (hpre : ∀ q ∈ r.pre, q) : OpOK P X Z w θ σ.m a o d r := by
  unfold callE at he
  split at he
  · exact ok_own hm hrun hreps (hC _ rfl) he hpre
  · exact ok_enter hm hrun hreps hC he hpre
  · cases he
end
end Go.Ev
