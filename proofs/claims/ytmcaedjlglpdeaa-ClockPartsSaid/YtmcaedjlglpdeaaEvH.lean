/- A part of the proof: symbolic evaluation of the program's functions, proved sound against the model; no condition. -/
/-
  The framework 'Ev', part H: stores, slices' literals, calls by contract; each operation meets its outcome.
  Conditions: none; a text of lemmas.
-/
import Derived.Test.YtmcaedjlglpdeaaEvG
namespace Go.Ev
open Go Go.RowKit
set_option linter.unusedVariables false
set_option linter.unusedSectionVars false
set_option linter.unusedSimpArgs false

/-! ### What a contract says -/
structure Grow (Z : Nat → Prop) (w : World) (Z' : Nat → Prop) (w' : World) : Prop where
  sub : ∀ b, Z b → Z' b
  new : ∀ b, Z' b → Z b ∨ w.heap.size ≤ b
  lt : ∀ b, Z' b → b < w'.heap.size

/-- The contract holds of the program's function f. -/
def Sound (P : Program) (f : FuncId) : Ctr → Prop
  | ⟨false, fn⟩ => ∀ (Z : Nat → Prop) (w : World) (xs : List AV) (vs : List Value) (q : Prop) (r : AV) (cs' : List AV), (∀ b, Z b → b < w.heap.size) → Reps Z w th0 xs vs → fn [] xs = some (q, r, cs') → q →
      Calls P f vs.toArray w fun e w' => ∃ v Z', e = .returned v ∧ FrameBut none w w' ∧ Grow Z w Z' w' ∧ Rep Z' w' th0 r v
  | ⟨true, fn⟩ => ∀ (Z : Nat → Prop) (w : World) (b : Nat) (T : TypeId) (cs : List AV) (us : List Value) (xs : List AV) (vs : List Value) (q : Prop) (r : AV) (cs' : List AV), (∀ b, Z b → b < w.heap.size) →
      w.heap[b]? = some (.cells us.toArray T (0, 0)) → ¬ Z b → Cells Z w th0 cs us → Reps Z w th0 xs vs → fn cs xs = some (q, r, cs') → q →
      Calls P f (pt b :: vs).toArray w fun e w' => ∃ v Z' T' us', e = .returned v ∧ FrameBut (some b) w w' ∧ Grow Z w Z' w' ∧ w'.heap[b]? = some (.cells (List.toArray us') T' (0, 0)) ∧ Cells Z' w' th0 cs' us' ∧ Rep Z' w' th0 r v

section
variable {P : Program} {X : Cx} {Z : Nat → Prop} {w : World} {θ : Nat → Value} {a : Act} {σ : St} {p : List (Nat × Bool)}

theorem Cells.of_th0 {cs : List AV} {vs : List Value} (h : Cells Z w th0 cs vs) (θ : Nat → Value) : Cells Z w θ cs vs :=
  ⟨h.len, h.at1, h.one, fun i c v hc hv => (h.rep i c v hc hv).of_th0 rfl θ⟩

theorem Reps.clean {xs : List AV} {vs : List Value} (h : Reps Z w θ xs vs) (hx : xs.all AV.clean1 = true) (θ' : Nat → Value) : Reps Z w θ' xs vs :=
  ⟨h.len, fun i c v hc hv => (h.rep i c v hc hv).th_clean1 (List.all_eq_true.1 hx c (List.mem_of_getElem? hc)) θ'⟩

theorem heap_setRow_same (w : World) (b : Nat) (cs : List Value) (T : TypeId) (vs : Array Value) (h : w.heap[b]? = some (.cells vs T (0, 0))) : (w.setRow b cs.toArray).heap[b]? = some (.cells cs.toArray T (0, 0)) := by
  simp [World.setRow, Array.getElem?_modify, h]

theorem heap_setRow_other (w : World) (b k : Nat) (cs : Array Value) (h : k ≠ b) : (w.setRow b cs).heap[k]? = w.heap[k]? := by
  simp only [World.setRow, Array.getElem?_modify]
  rw [if_neg (by omega)]

variable (hs : ∀ k, SRep Z w θ a.tmps (σ.s k) (a.tmps.getD k undef)) (hp : pathT a.tmps p)
include hs hp

theorem ok_store {o : Oper} {d : Nat} (hm : Mem X Z w θ σ.m) {t : TypeId} {x v : Operand} (ho : o.op = .store t x v) {n : Nat} (hn : sizeP P t = some n) {x' v' : A} (hx : compA x = some x') (hv : compA v = some v') {r : Res}
    (he : bind2 (av σ p x') (av σ p v') (storeR σ.m n) = some r) : OpOK P X Z w θ σ.m a o d r := by
  obtain ⟨ax, vv, hax, hvv, h⟩ := bind2_some he
  have hrx := av_rep hs hp hx hax
  have hrv := av_rep hs hp hv hvv
  unfold storeR at h
  split at h <;> try (cases h; done)
  rename_i r0 off
  split at h <;> try (cases h; done)
  rename_i ds cs hds hmr
  split at h <;> try (cases h; done)
  rename_i hle
  simp only [Option.some.injEq] at h; subst h
  obtain ⟨hdl, us, hus, hcu⟩ := cellsOfAV_spec hds hrv
  obtain ⟨b, T, vs, hθ, hheap, hnZ, hcs⟩ := hm.brep r0 _ hmr
  have hul : us.length = n := by rw [hcu.len, hdl]
  generalize ex : a.eval x = u at hrx
  cases hrx with
  | ptr _ _ _ b' hθ' =>
    rw [hθ] at hθ'; simp at hθ'; subst hθ'
    have hrun : (execOp a.eval o).run P w = .ok .skip (w.setRow b (vs.take off ++ us ++ vs.drop (off + us.length)).toArray) := by
      have hst := run_storeCells_at P b off T us 0 vs.toArray w hheap (by simp [hcs.len, hul]; omega) hcu.one
      simp only [Nat.add_zero, List.toList_toArray] at hst
      simp [execOp, ho, ex, Instr.storeAt, Instr.sureAddr, storeVar, run_sizeP hn, hus, hul, hst]
    intro K Q hK
    refine wp_skip_op hrun (hK _ Z _ θ ?_)
    have hlt := lt_of_get hheap
    have hst := hm.stepW (w' := w.setRow b (vs.take off ++ us ++ vs.drop (off + us.length)).toArray) (m' := updL σ.m [(r0, .cells (setCells cs off ds))]) (some r0) (fun _ h => h) (fun _ h => .inl h)
      (fun b hb => by simpa using hm.zlt b hb) rfl rfl rfl (by simp) (fun k hk hne => heap_setRow_other w b k _ (by
        intro e; subst e; exact hne r0 rfl hθ)) (fun r' hr' => by
        have : r' ≠ r0 := fun e => hr' (by rw [e])
        simp [updL, updM, this]) (fun r' hr' => by
        simp only [Option.some.injEq] at hr'; subst hr'
        refine ⟨by simp [hmr], fun blk hblk => ?_⟩
        simp [updL, updM] at hblk
        subst hblk
        have g : Goes Z w Z (w.setRow b (vs.take off ++ us ++ vs.drop (off + us.length)).toArray) := ⟨fun _ h => h, fun k hk => heap_setRow_other w b k _ (by intro e; subst e; exact hnZ hk)⟩
        exact ⟨b, T, _, hθ, heap_setRow_same w b _ T _ hheap, hnZ, (hcs.set hcu (by rw [hdl]; exact hle)).step g⟩)
    exact ⟨.junk _ _, hst.2, fun _ _ => rfl, hst.1, by simp⟩

/-! ### Slices' literals -/
omit hs hp in
theorem flatten_get {α : Type} {es : List (List α)} {n : Nat} (hz : ∀ e ∈ es, e.length = n) {i j : Nat} {e : List α} (hi : es[i]? = some e) (hj : j < n) : es.flatten[i * n + j]? = e[j]? := by
  induction es generalizing i with
  | nil => simp at hi
  | cons x es ih =>
    have hx := hz x (by simp)
    cases i with
    | zero =>
      simp at hi; subst hi
      rw [List.flatten_cons, Nat.zero_mul, Nat.zero_add, List.getElem?_append_left (by omega)]
    | succ i =>
      simp at hi
      rw [List.flatten_cons, List.getElem?_append_right (by rw [hx, Nat.add_mul]; omega)]
      rw [show (i + 1) * n + j - x.length = i * n + j by rw [hx, Nat.add_mul]; omega]
      exact ih (fun e he => hz e (by simp [he])) hi

omit hs hp in
theorem flatten_len {α : Type} {es : List (List α)} {n : Nat} (hz : ∀ e ∈ es, e.length = n) : es.flatten.length = es.length * n := by
  induction es with
  | nil => simp
  | cons x es ih =>
    rw [List.flatten_cons, List.length_append, ih (fun e he => hz e (by simp [he])), hz x (by simp), List.length_cons, Nat.add_mul]
    omega

omit hs hp in
theorem flatten_set {n : Nat} : ∀ {es : List (List AV)} (hz : ∀ e ∈ es, e.length = n) {i : Nat} {ds : List AV} (hd : ds.length = n) (hi : i < es.length), (es.set i ds).flatten = setCells es.flatten (i * n) ds := by
  intro es
  induction es with
  | nil => intro _ i ds _ hi; simp at hi
  | cons x es ih =>
    intro hz i ds hd hi
    have hx := hz x (by simp)
    have hl := flatten_len (es := x :: es) hz
    have hmul : i * n + n ≤ (es.length + 1) * n := by
      have := Nat.mul_le_mul_right n (show i + 1 ≤ es.length + 1 by simp at hi; omega)
      rw [Nat.add_mul] at this; omega
    rw [setCells_eq _ _ _ (by rw [hl, hd]; simpa using hmul)]
    cases i with
    | zero => simp [hd, ← hx]
    | succ i =>
      rw [List.set_cons_succ, List.flatten_cons, ih (fun e he => hz e (by simp [he])) hd (by simpa using hi), setCells_eq _ _ _ (by
        rw [flatten_len (fun e he => hz e (by simp [he])), hd]
        have := Nat.mul_le_mul_right n (show i + 1 ≤ es.length by simp at hi; omega)
        rw [Nat.add_mul] at this; omega), List.flatten_cons]
      have e1 : (i + 1) * n = x.length + i * n := by rw [hx, Nat.add_mul]; omega
      rw [e1, List.take_length_add_append, Nat.add_assoc, List.drop_length_add_append]
      simp

omit hs hp in
theorem replicate_cells {z : List AV} {vs : List Value} (h : Cells Z w θ z vs) : ∀ n, Cells Z w θ (List.replicate n z).flatten (List.replicate n vs).flatten
  | 0 => .nil _ _ _
  | n + 1 => by
    rw [List.replicate_succ, List.replicate_succ, List.flatten_cons, List.flatten_cons]
    exact h.append (replicate_cells h n)

omit hs hp in
theorem range_zero (vs : List Value) (n s : Nat) (hl : vs.length = s) (hs0 : s ≠ 0) : ((Array.range (n * s)).map (vs.toArray[· % vs.toArray.size]!)) = (List.replicate n vs).flatten.toArray := by
  apply Array.ext'
  simp only [Array.toList_map, Array.toList_range, List.size_toArray, hl]
  apply List.ext_getElem?
  intro j
  by_cases hj : j < n * s
  · have h1 : (List.range (n * s))[j]? = some j := by simp [hj]
    have hdiv : j / s < n := by
      rw [Nat.div_lt_iff_lt_mul (by omega)]; exact hj
    have hmod : j % s < s := Nat.mod_lt _ (by omega)
    have h2 := flatten_get (es := List.replicate n vs) (n := s) (by intro e he; rw [(List.mem_replicate.1 he).2, hl]) (i := j / s) (j := j % s) (e := vs) (by simp [hdiv]) hmod
    rw [show j / s * s + j % s = j by rw [Nat.mul_comm]; exact Nat.div_add_mod j s] at h2
    rw [h2, List.getElem?_map, h1]
    simp [List.getElem?_eq_getElem (show j % s < vs.length by omega)]
  · rw [List.getElem?_eq_none (by simp; omega), List.getElem?_eq_none]
    rw [flatten_len (n := s) (by intro e he; rw [(List.mem_replicate.1 he).2, hl])]
    simp; omega

/-- The parts of a slice's literal. -/
theorem fill_partsS (n : Nat) :
    ∀ (ps : List (Nat × Operand)) (qs : List (Nat × A)) (es xs : List (List AV)) (vs : List Value), compPartsS ps = some qs → fillS σ p n es qs = some xs → (∀ e ∈ es, e.length = n) → Cells Z w th0 es.flatten vs →
      xs.length = es.length ∧ (∀ e ∈ xs, e.length = n) ∧ ∃ us, Instr.fill (fun i => some (i * n, n)) vs.toArray (ps.map fun x => (x.1, a.eval x.2)) = some (List.toArray us) ∧ Cells Z w th0 xs.flatten us
  | [], qs, es, xs, vs, hc, hf, hz, hcs => by
    simp [compPartsS] at hc; subst hc
    simp [fillS] at hf; subst hf
    exact ⟨rfl, hz, vs, by simp [Instr.fill], hcs⟩
  | (i, x) :: ps, qs, es, xs, vs, hc, hf, hz, hcs => by
    unfold compPartsS at hc
    split at hc <;> try (cases hc; done)
    rename_i x' rs hx' hrs
    simp only [Option.some.injEq] at hc
    subst hc
    unfold fillS at hf
    split at hf <;> try (cases hf; done)
    rename_i y hy
    split at hf <;> try (cases hf; done)
    rename_i ds hds
    split at hf <;> try (cases hf; done)
    rename_i hle
    have hr := av_rep hs hp hx' hy
    obtain ⟨hlen, us, hus, hcu⟩ := cellsOfAV_spec hds hr
    have hul : us.length = n := by rw [hcu.len, hlen]
    have hfl := flatten_len hz
    have hfit : i * n + n ≤ es.flatten.length := by
      rw [hfl]
      have := Nat.mul_le_mul_right n (show i + 1 ≤ es.length from hle.1)
      rw [Nat.add_mul] at this; omega
    rw [List.map_cons, fill_step rfl hus hul (by rw [hcs.len]; exact hfit)]
    have hz' : ∀ e ∈ es.set i ds, e.length = n := by
      intro e he
      rcases List.mem_or_eq_of_mem_set he with h | h
      · exact hz e h
      · rw [h, hlen]
    have := fill_partsS n ps rs (es.set i ds) xs _ hrs hf hz' (by
      rw [flatten_set hz hlen hle.1]
      exact hcs.set (hcu.th_clean hle.2 th0) (by rw [hlen]; exact hfit))
    refine ⟨by rw [this.1]; simp, this.2⟩

/-- A list that lies in one new block. -/
theorem rep_lst {z : List AV} {es : List (List AV)} {us : List Value} {b cap : Nat} (hzl : ∀ e ∈ es, e.length = z.length) (hc : Cells Z w th0 es.flatten us) (hcap : es.length ≤ cap) (hmax : cap ≤ maxLen) (hb : Z b)
    (hcell : ∀ (j : Nat) (v : Value), us[j]? = some v → w.cell? ⟨b, j, none⟩ = some v) : Rep Z w θ (.lst z es) (.slice (some ⟨b, 0, none⟩) es.length cap) := by
  have key : ∀ (i j : Nat) (c : AV), cellAt es i j = some c → es.flatten[i * z.length + j]? = some c := by
    intro i j c hcc
    unfold cellAt at hcc
    rw [Option.bind_eq_some_iff] at hcc
    obtain ⟨e, he, hj⟩ := hcc
    rw [flatten_get hzl he (by rw [← hzl e (List.mem_of_getElem? he)]; exact (List.getElem?_eq_some_iff.1 hj).1), hj]
  refine .lst θ z es _ cap (fun i j => us.getD (i * z.length + j) undef) hcap hmax hzl ?_ ?_ ?_ ?_
  · intro e he c hce
    exact hc.at1 c (List.mem_flatten.2 ⟨e, he, hce⟩)
  · intro _
    refine ⟨b, 0, rfl, hb, fun i j c hcc => ?_⟩
    obtain ⟨v, hv, _⟩ := hc.get (key i j c hcc)
    rw [Nat.zero_add, hcell _ v hv]
    simp [List.getD, hv]
  · intro i j c hcc
    obtain ⟨v, hv, _⟩ := hc.get (key i j c hcc)
    have := hc.one v (List.mem_of_getElem? hv)
    simpa [List.getD, hv] using this
  · intro i j c hcc
    obtain ⟨v, hv, hr⟩ := hc.get (key i j c hcc)
    simpa [List.getD, hv] using hr

theorem ok_bslice {o : Oper} {d n : Nat} (hm : Mem X Z w θ σ.m) {t e : TypeId} {ps : Array (Nat × Operand)} (ho : o.op = .buildSlice t n ps) (hu : P.underlying t = some (.slice e)) {s : Nat} (hsz : sizeP P e = some s) {z : List AV} (hz : zeroP P e = some z)
    {qs : List (Nat × A)} (hc : compPartsS ps.toList = some qs) (hn : n * s ≤ 16777216) (hzs : z.length = s) (hs0 : s ≠ 0) {r : Res}
    (he : (match fillS σ p z.length (List.replicate n z) qs with | some es => Res.q (.lst z es) | none => none) = some r) : OpOK P X Z w θ σ.m a o d r := by
  split at he <;> try (cases he; done)
  rename_i xs hxs
  simp only [Res.q, Option.some.injEq] at he; subst he
  obtain ⟨v, hzero, vs, hvs, hcs, hcl⟩ := zeroP_spec (Z := Z) (w := w) (θ := th0) hz
  have hvl : vs.length = s := by rw [hcs.len, hzs]
  obtain ⟨hxl, hxz, us, hfill, hcu⟩ := fill_partsS hs hp z.length ps.toList qs (List.replicate n z) xs _ hc hxs (by intro e he; rw [(List.mem_replicate.1 he).2]) (replicate_cells hcs n)
  have hxn : xs.length = n := by rw [hxl]; simp
  have hparts : (ps.map fun x => (x.1, a.eval x.2)).toList = ps.toList.map fun x => (x.1, a.eval x.2) := by simp
  have hfill' : Instr.fill (fun i => some (i * s, s)) (List.replicate n vs).flatten.toArray (ps.toList.map fun x => (x.1, a.eval x.2)) = some (List.toArray us) := by rw [← hzs]; exact hfill
  have hrun : (execOp a.eval o).run P w = .ok (.value (.slice (some ⟨w.heap.size, 0, none⟩) n n)) (w.alloc (.cells us.toArray e)) := by
    by_cases hn0 : n = 0
    · subst hn0
      simp only [List.replicate_zero, List.flatten_nil] at hfill'
      simp only [execOp, ho, Instr.buildSlice, Sem.run_bind, run_underlying hu, Result.andThen_ok, run_sizeP hsz, Nat.zero_mul, Sem.run_ite, hparts]
      have e0 : Array.map (fun i : Nat => (#[] : Array Value)[i % (#[] : Array Value).size]!) (Array.range 0) = #[] := by
        apply Array.ext'
        simp
      simp only [if_true, Sem.run_pure, Result.andThen_ok, e0, hfill', newRow, Sem.run_bind, run_newObj_alloc]
      rfl
    · have h2 : ¬ n * s > 2 ^ 24 := by omega
      have h3 : ¬ n * s = 0 := by
        intro h; rcases Nat.mul_eq_zero.1 h with h | h
        · exact hn0 h
        · exact hs0 h
      simp only [execOp, ho, Instr.buildSlice, Sem.run_bind, run_underlying hu, Result.andThen_ok, run_sizeP hsz, Sem.run_ite, h2, h3, if_false, hzero, Sem.run_pure, hvs, hparts, range_zero vs n s hvl hs0, hfill', newRow, run_newObj_alloc]
  intro K Q hK
  obtain ⟨h1, g⟩ := hm.alloc (.cells us.toArray e) (fun b => Z b ∨ b = w.heap.size) (fun _ h => .inl h) (fun _ h => h)
  refine wp_value hrun (hK _ _ _ θ ⟨?_, g, fun _ _ => rfl, h1, by simp⟩)
  have hnew : (w.alloc (.cells us.toArray e)).heap[w.heap.size]? = some (.cells us.toArray e (0, 0)) := heap_alloc_new w _
  have hmax : n ≤ maxLen := by
    unfold maxLen
    have : n ≤ n * s := Nat.le_mul_of_pos_right n (by omega)
    omega
  have := rep_lst (a := a) (σ := σ) (p := p) (Z := fun b => Z b ∨ b = w.heap.size) (w := w.alloc (.cells us.toArray e)) (θ := θ) (z := z) (es := xs) (us := us) (b := w.heap.size) (cap := n) ?_ hp hxz (hcu.step g) (by omega) hmax (.inr rfl) (fun j v hj => by
    rw [cell_of_row _ _ _ _ _ _ hnew]; simpa using hj)
  · rw [hxn] at this; exact this
  · intro k
    have hk := hs k
    generalize σ.s k = y at hk
    cases y <;> first | exact Rep.step g hk | exact ⟨fun h => (hk.1 h).step g, hk.2⟩

/-! ### Calls -/
omit hs hp in
theorem run_call {o : Oper} {c : Call} {f : Nat} (ho : o.op = .call c) (hc : c.callee = .value (.func f)) {fn : Func} (hf : P.funcs[f]? = some fn) (hb : fn.body.isSome = true) (hn : (fn.name == "runtime.NumGoroutine") = false) :
    (execOp a.eval o).run P w = .ok (.enter f (c.args.map a.eval)) w := by
  have hb' : fn.body.isNone = false := by
    cases h : fn.body with
    | none => rw [h] at hb; cases hb
    | some _ => rfl
  have hn' : ¬ fn.name = "runtime.NumGoroutine" := by simpa using hn
  have hb'' : ¬ fn.body = none := by rintro h; rw [h] at hb'; cases hb'
  simp [execOp, ho, resolve, hc, Act.eval, Deferred.ofValue, invoke, callFunc, hf, hn', hb'']

theorem ok_call {o : Oper} {c : Call} {f d : Nat} (hm : Mem X Z w θ σ.m) (ho : o.op = .call c) (hc : c.callee = .value (.func f)) {fn : Func} (hf : P.funcs[f]? = some fn) (hb : fn.body.isSome = true) (hn : (fn.name == "runtime.NumGoroutine") = false)
    {xs' : List A} (hx : compAs c.args.toList = some xs') {C : Option Ctr} (hC : ∀ C', C = some C' → Sound P f C') {r : Res} (he : (match avs σ p xs' with | some vs => callR σ.m C vs | none => none) = some r) (hpre : ∀ q ∈ r.pre, q) : OpOK P X Z w θ σ.m a o d r := by
  split at he <;> try (cases he; done)
  rename_i vs hvs
  have hreps := avs_reps hs hp hx hvs
  have hrun := run_call (P := P) (w := w) (a := a) ho hc hf hb hn
  unfold callR at he
  split at he
  · cases he
  · rename_i g
    have hS := hC _ rfl
    split at he <;> try (cases he; done)
    rename_i q rv cs' hcl hfn
    split at he <;> try (cases he; done)
    rename_i hrc
    simp only [Option.some.injEq] at he; subst he
    intro K Q hK
    unfold Oper.wp
    rw [hrun, Oper.upon_enter]
    have hargs : c.args.map a.eval = (c.args.toList.map a.eval).toArray := by
      apply Array.ext'; simp
    rw [hargs]
    refine (hS Z w vs (c.args.toList.map a.eval) q rv cs' hm.zlt (hreps.clean hcl th0) hfn (hpre q (by simp))).mono ?_
    rintro e w' ⟨v, Z', rfl, hfr, hgr, hrep⟩
    have hst := hm.stepW (w' := w') (m' := σ.m) none hgr.sub hgr.new hgr.lt hfr.os hfr.tape hfr.output hfr.size (fun k hk _ => hfr.block k hk (by simp)) (fun _ _ => rfl) (fun r h => by cases h)
    exact hK v Z' w' θ ⟨hrep.of_th0 rfl θ, hst.2, fun _ _ => rfl, hst.1, by simp⟩
  · rename_i g
    have hS := hC _ rfl
    split at he <;> try (cases he; done)
    rename_i r0 ys
    split at he <;> try (cases he; done)
    rename_i cs hmr hcl
    split at he <;> try (cases he; done)
    rename_i q rv cs' hcc hfn
    split at he <;> try (cases he; done)
    rename_i hrc hcc'
    simp only [Option.some.injEq] at he; subst he
    obtain ⟨b, T, us, hθ, hheap, hnZ, hcells⟩ := hm.brep r0 _ hmr
    generalize hev : c.args.toList.map a.eval = evs at hreps
    cases evs with
    | nil => have := hreps.len; simp at this
    | cons v0 evs =>
      have h0 := hreps.rep 0 _ v0 rfl rfl
      have hrest : Reps Z w θ ys evs := ⟨by have := hreps.len; simpa using this, fun i c w' h1 h2 => hreps.rep (i + 1) c w' (by simpa using h1) (by simpa using h2)⟩
      cases h0 with
      | ptr _ _ _ b' hθ' =>
        rw [hθ] at hθ'; simp at hθ'; subst hθ'
        intro K Q hK
        unfold Oper.wp
        rw [hrun, Oper.upon_enter]
        have hargs : c.args.map a.eval = (pt b :: evs).toArray := by
          rw [← hev]; apply Array.ext'; simp
        rw [hargs]
        refine (hS Z w b T cs us ys evs q rv cs' hm.zlt hheap hnZ (hcells.th_clean hcc th0) (hrest.clean hcl th0) hfn (hpre q (by simp))).mono ?_
        rintro e w' ⟨v, Z', T', us', rfl, hfr, hgr, hheap', hcells', hrep⟩
        have hnZ' : ¬ Z' b := by
          intro hb'
          rcases hgr.new b hb' with h | h
          · exact hnZ h
          · have := lt_of_get hheap; omega
        have hst := hm.stepW (w' := w') (m' := updL σ.m [(r0, .cells cs')]) (some r0) hgr.sub hgr.new hgr.lt hfr.os hfr.tape hfr.output hfr.size (fun k hk hne => hfr.block k hk (by
            intro e; simp only [Option.some.injEq] at e; subst e; exact hne r0 rfl hθ)) (fun r' hr' => by
            have : r' ≠ r0 := fun e => hr' (by rw [e])
            simp [updL, updM, this]) (fun r' hr' => by
            simp only [Option.some.injEq] at hr'; subst hr'
            refine ⟨by simp [hmr], fun blk hblk => ?_⟩
            simp [updL, updM] at hblk
            subst hblk
            exact ⟨b, T', us', hθ, hheap', hnZ', hcells'.of_th0 θ⟩)
        exact hK v Z' w' θ ⟨hrep.of_th0 rfl θ, hst.2, fun _ _ => rfl, hst.1, by simp⟩

end
end Go.Ev
