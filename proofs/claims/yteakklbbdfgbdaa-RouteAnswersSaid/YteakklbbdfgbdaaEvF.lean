/- A part of the proof: symbolic evaluation of the program's functions, proved sound against the model; no condition. -/
/-
  The framework 'Ev', part F: addresses, loads, literals; the kept blocks; what an operation leaves.
  Conditions: none; a text of lemmas.
-/
import Derived.Test.YteakklbbdfgbdaaEvE
import Derived.Laws.OwnMore
namespace Go.Ev
open Go Go.RowKit
set_option linter.unusedVariables false
set_option linter.unusedSectionVars false
set_option linter.unusedSimpArgs false

theorem Rep.of_th0 {Z : Nat → Prop} {w : World} {t : Nat → Value} {x : AV} {v : Value} (h : Rep Z w t x v) (ht : t = th0) (θ : Nat → Value) : Rep Z w θ x v := by
  induction h with
  | int _ k n => exact .int θ k n
  | bool _ b => exact .bool θ b
  | str _ s => exact .str θ s
  | agg _ cs vs hl ha h1 h ih => exact .agg θ cs vs hl ha h1 fun i c v hc hv => ih i c v hc hv ht
  | tup _ cs vs hl ha h ih => exact .tup θ cs vs hl ha fun i c v hc hv => ih i c v hc hv ht
  | lst _ z es a cap f hc hm hz hat hmem h1 h _ => exact .lst θ z es a cap f hc hm hz hat hmem h1 h
  | ep _ z es i off b o f hi hz hat hb hmem h1 h _ => exact .ep θ z es i off b o f hi hz hat hb hmem h1 h
  | ptr _ r off b h => subst ht; simp [th0] at h
  | vw _ r x y z a n c h => subst ht; simp [th0] at h
  | ap _ r x y z v h h0 h1 => subst ht; exact absurd h.symm h0
  | bp _ r sz i off b o n c h => subst ht; simp [th0] at h
  | sv _ r sz lo hi a n c a' c' h h1 h2 h3 h4 h5 => subst ht; simp [th0] at h
  | nb _ e b h => exact .nb θ e b h
  | fn _ f => exact .fn θ f
  | nil _ => exact .nil θ
  | junk _ v => exact .junk θ v

/-- The block behind a pointer to its head, or behind a slice of one's own. -/
def bk : Value → Option Nat
  | .pointer (some ⟨b, 0, none⟩) => some b
  | .slice (some ⟨b, _, none⟩) _ _ => some b
  | .map (some b) => some b
  | _ => none
/-- A row of which a slice sees a part. -/
def QRow (w : World) (T : TypeId) (k : Nat) (v : Value) (n : Nat) (xs : List Value) : Prop :=
  xs.length = n * k ∧ ((v = .slice none 0 0 ∧ n = 0) ∨ ∃ g o cap cur, v = .slice (some ⟨g, o, none⟩) n cap ∧ w.heap[g]? = some (.cells cur T (0, 0)) ∧ n ≤ cap ∧ cap ≤ maxLen ∧ o + cap * k ≤ cur.size ∧ (cur.toList.drop o).take (n * k) = xs)
/-- A key. -/
def keyV : Nat → List Int → Value
  | 0, [a] => .int .u8 a
  | _, l => .agg (l.map fun a => Value.int .i64 a).toArray
/-- The keys of a map whose values are all true, the last one first. -/
def KeysOf (n : Nat) (ks : List (List Int)) (E : List MapEntry) : Prop :=
  E.map (fun e => (e.key, e.val)) = ks.reverse.map (fun k => (keyV n k, Value.bool true)) ∧ ∀ k ∈ ks, k.length = if n = 0 then 1 else n
/-- A kept block holds what it is said to hold. -/
def BRep (Z : Nat → Prop) (w : World) (θ : Nat → Value) (r : Nat) : Blk → Prop
  | .cells cs => ∃ b T vs, θ r = .pointer (some ⟨b, 0, none⟩) ∧ w.heap[b]? = some (.cells (List.toArray vs) T (0, 0)) ∧ ¬ Z b ∧ Cells Z w θ cs vs
  | .buf T z es => z ≠ [] ∧ (∀ e ∈ es, e.length = z.length) ∧ ∃ (xs : List Value), w.ownsRow 0 T z.length (θ r) es.length xs ∧ (∀ b, bk (θ r) = some b → ¬ Z b) ∧ Cells Z w th0 es.flatten xs
  | .qb T z es => z ≠ [] ∧ (∀ e ∈ es, e.length = z.length) ∧ ∃ (xs : List Value), QRow w T z.length (θ r) es.length xs ∧ (∀ b, bk (θ r) = some b → ¬ Z b) ∧ Cells Z w th0 es.flatten xs
  | .ms n ks => ∃ b E clock, θ r = .map (some b) ∧ w.heap[b]? = some (.map E clock) ∧ ¬ Z b ∧ KeysOf n ks E.toList
  | .clo f z es i off => ∃ v, θ r = .func (.func f) #[] #[v] ∧ Rep Z w th0 (.ep z es i off) v
  | .dead => False

theorem QRow.cells {w : World} {T : TypeId} {k n n' c g o : Nat} {xs : List Value} (h : QRow w T k (.slice (some ⟨g, o, none⟩) n' c) n xs) : ∀ j u, xs[j]? = some u → w.cell? ⟨g, o + j, none⟩ = some u := by
  intro j u hu
  rcases h.2 with ⟨h1, _⟩ | ⟨g', o', cap, cur, h1, hgg, _, _, _, htake⟩
  · cases h1
  · simp only [Value.slice.injEq, Option.some.injEq, Addr.mk.injEq] at h1
    obtain ⟨⟨rfl, rfl, _⟩, rfl, rfl⟩ := h1
    rw [cell_of_row w g (o + j) cur T (0, 0) hgg]
    rw [← htake, List.getElem?_take] at hu
    split at hu
    · rw [List.getElem?_drop] at hu
      simpa using hu
    · cases hu
theorem row_off {w : World} {b size n n' c g o : Nat} {T : TypeId} {xs : List Value} (h : w.ownsRow b T size (.slice (some ⟨g, o, none⟩) n' c) n xs) : o = 0 := by
  rcases h.2 with ⟨h1, _⟩ | ⟨g', cap, cur, h1, _⟩
  · cases h1
  · simp only [Value.slice.injEq, Option.some.injEq, Addr.mk.injEq] at h1
    exact h1.1.2.1

theorem add_none (b o n : Nat) : (Addr.add ⟨b, o, none⟩ n) = ⟨b, o + n, none⟩ := by
  unfold Addr.add; split
  · rename_i h; subst h; rfl
  · rfl

section
variable {P : Program} {Z : Nat → Prop} {w : World} {θ : Nat → Value} {a : Act} {σ : St} {p : List (Nat × Bool)}

theorem und_of_aggP {t : TypeId} {i : TypeInfo} (h : P.info? t = some i) : (∃ d, P.underlying t = some d) ∨ P.underlying t = none := by
  cases P.underlying t with
  | none => exact .inr rfl
  | some d => exact .inl ⟨d, rfl⟩

theorem sizeP_info {t : TypeId} {n : Nat} (h : sizeP P t = some n) : ∃ i, P.info? t = some i ∧ i.size = n := by
  unfold sizeP at h
  rw [Option.map_eq_some_iff] at h
  exact h

theorem run_sizeP {t : TypeId} {n : Nat} (h : sizeP P t = some n) (w : World) : (sizeOf t).run P w = .ok n w := by
  obtain ⟨i, hi, rfl⟩ := sizeP_info h
  rw [run_sizeOf w hi]
  simp [Program.cellsOf, hi]

/-- A load of n cells that lie in a row. -/
theorem run_loadVar_cells {t : TypeId} {n : Nat} (hn : sizeP P t = some n) {u : TypeDesc} (hu : P.underlying t = some u) {b off : Nat} {us : List Value}
    (hl : us.length = n) (hc : ∀ (j : Nat) (v : Value), us[j]? = some v → w.cell? ⟨b, off + j, none⟩ = some v) {res : Value}
    (hr : (aggP P t = true ∧ res = .agg us.toArray) ∨ (aggP P t = false ∧ us = [res])) : (loadVar t ⟨b, off, none⟩).run P w = .ok res w := by
  rcases hr with ⟨ha, rfl⟩ | ⟨ha, rfl⟩
  · have := run_loadCells_list (P := P) w ⟨b, off, none⟩ us (fun j v hj => by rw [add_none]; exact hc j v hj)
    rw [hl] at this
    simp only [loadVar, Sem.run_bind, run_isAggP hu, ha, Result.andThen_ok, if_true, run_sizeP hn, this, Sem.run_pure]
  · have h0 := hc 0 res rfl
    simp only [Nat.add_zero] at h0
    simp only [loadVar, Sem.run_bind, run_isAggP hu, ha, Result.andThen_ok, Bool.false_eq_true, if_false, run_load, h0]

theorem cells_val {cs : List AV} {vs : List Value} (h : Cells Z w θ cs vs) {ag : Bool} {n off : Nat} {x : AV} (hx : valOf ag n cs off = some x) :
    ∃ us : List Value, us.length = n ∧ (∀ (j : Nat) (v : Value), us[j]? = some v → vs[off + j]? = some v) ∧ ∃ res, Rep Z w θ x res ∧ ((ag = true ∧ res = .agg us.toArray) ∨ (ag = false ∧ us = [res])) := by
  unfold valOf at hx
  split at hx
  · split at hx <;> simp at hx
    subst hx
    rename_i hle
    have hc := (h.drop off).take n
    refine ⟨(vs.drop off).take n, by simp [h.len]; omega, ?_, _, hc.agg, .inl ⟨rfl, rfl⟩⟩
    intro j v hj
    rw [List.getElem?_take] at hj
    split at hj <;> simp_all
  · split at hx
    · obtain ⟨v, hv, hr⟩ := h.get hx
      refine ⟨[v], rfl, ?_, v, hr, .inr ⟨rfl, rfl⟩⟩
      intro j u hj
      cases j with
      | zero => simp at hj; subst hj; simpa using hv
      | succ j => simp at hj
    · cases hx

theorem Cells.of_th0' {cs : List AV} {vs : List Value} (h : Cells Z w th0 cs vs) (θ : Nat → Value) : Cells Z w θ cs vs :=
  ⟨h.len, h.at1, h.one, fun i c v hc hv => (h.rep i c v hc hv).of_th0 rfl θ⟩
theorem flat_row {k : Nat} {z : List AV} : ∀ {es : List (List AV)}, (∀ e ∈ es, e.length = k) → ∀ {i : Nat}, i < es.length → (es.flatten.drop (i * k)).take k = getE z es i
  | [], _, i, hi => by simp at hi
  | e :: es, h, i, hi => by
    have he : e.length = k := h e (by simp)
    cases i with
    | zero => simp [getE, ← he]
    | succ i =>
      have := flat_row (z := z) (fun e he => h e (List.mem_cons_of_mem _ he)) (i := i) (by simpa using hi)
      rw [List.flatten_cons, show (i + 1) * k = e.length + i * k by rw [he, Nat.add_mul]; omega, List.drop_length_add_append, this]
      simp [getE]
/-- An element of a buffer. -/
theorem row_cells {k : Nat} {z : List AV} {es : List (List AV)} {xs : List Value} (hz : ∀ e ∈ es, e.length = k) (hc : Cells Z w th0 es.flatten xs) {i : Nat} (hi : i < es.length) (θ : Nat → Value) : Cells Z w θ (getE z es i) ((xs.drop (i * k)).take k) := by
  have := ((hc.of_th0' θ).drop (i * k)).take k
  rw [flat_row hz hi] at this
  exact this

theorem ep_cells {z : List AV} {es : List (List AV)} {i : Nat} {f : Nat → Nat → Value} (hi : i < es.length) (hz : ∀ e ∈ es, e.length = z.length) (hat : ∀ e ∈ es, ∀ c ∈ e, c.atom = true)
    (h1 : ∀ (i j : Nat) (c : AV), cellAt es i j = some c → (f i j).oneCell' = true) (h : ∀ (i j : Nat) (c : AV), cellAt es i j = some c → Rep Z w th0 c (f i j)) (θ : Nat → Value) :
    Cells Z w θ (getE z es i) ((List.range z.length).map (f i)) := by
  have hge : getE z es i = es[i] := by simp [getE, List.getD, List.getElem?_eq_getElem hi]
  have hmem : es[i] ∈ es := List.getElem_mem hi
  have hcell : ∀ (j : Nat) (c : AV), es[i][j]? = some c → cellAt es i j = some c := by
    intro j c hc
    simp [cellAt, List.getElem?_eq_getElem hi, hc]
  rw [hge]
  refine ⟨by simp [hz _ hmem], fun c hc => hat _ hmem c hc, ?_, ?_⟩
  · intro v hv
    obtain ⟨j, hj, rfl⟩ := List.mem_map.1 hv
    have hj' : j < es[i].length := by rw [hz _ hmem]; exact List.mem_range.1 hj
    exact h1 i j _ (hcell j _ (List.getElem?_eq_getElem hj'))
  · intro j c v hc hv
    rw [List.getElem?_map] at hv
    obtain ⟨j', hj', rfl⟩ := Option.map_eq_some_iff.1 hv
    have : j' = j := by
      have := List.getElem?_eq_some_iff.1 hj'
      obtain ⟨_, e⟩ := this
      simp at e; exact e.symm
    subst this
    exact (h i j' c (hcell j' c hc)).of_th0 rfl θ

variable (hs : ∀ k, SRep Z w θ a.tmps (σ.s k) (a.tmps.getD k undef)) (hp : pathT a.tmps p)
include hs hp

theorem calm_faddr {o : Oper} {t : TypeId} {x : Operand} {f : Nat} (ho : o.op = .fieldAddr t x f) {fs : Array Field} (hu : P.underlying t = some (.struct fs)) {fd : Field} (hf : fs[f]? = some fd) {s : Nat} (hsz : sizeP P fd.type = some s) (hs0 : s ≠ 0)
    {x' : A} (hc : compA x = some x') {r : Res} (he : bind1 (av σ p x') (faddrR fd.offset) = some r) : Calm P Z w θ a o r := by
  obtain ⟨y, hy, h⟩ := bind1_some he
  have hr := av_rep hs hp hc hy
  have hrun : ∀ (b off : Nat), a.eval x = .pointer (some ⟨b, off, none⟩) → (execOp a.eval o).run P w = .ok (.value (.pointer (some ⟨b, off + fd.offset, none⟩))) w := by
    intro b off hv
    simp [execOp, ho, hv, Instr.fieldAt, run_underlying hu, hf, Instr.sureAddr, fieldPlace, run_sizeP hsz, hs0, add_none]
  generalize hv : a.eval x = v at hr hrun
  cases y <;> try (cases h; done)
  · rename_i z es i off
    cases hr with
    | ep _ _ _ _ _ b o' f' hi hz hat hb hmem h1 hh =>
      refine .q h (hrun _ _ rfl) ?_
      rw [show o' + (i * z.length + off) + fd.offset = o' + (i * z.length + (off + fd.offset)) by omega]
      exact .ep _ _ _ _ _ _ _ f' hi hz hat hb hmem h1 hh
  · cases hr with
    | ptr _ r off b hθ => exact .q h (hrun _ _ rfl) (.ptr _ _ _ _ hθ)
  · cases hr with
    | bp _ r sz i off b o0 n c hθ =>
      refine .q h (hrun _ _ rfl) ?_
      rw [Nat.add_assoc, Nat.add_assoc]
      exact .bp _ _ _ _ _ _ _ _ _ hθ

theorem calm_iaddrS {o : Oper} {t e : TypeId} {x i : Operand} (ho : o.op = .indexAddr t x i) (hu : P.underlying t = some (.slice e)) {sz : Nat} (hsz : sizeP P e = some sz) {zero : List AV} (hzero : zero.length = sz)
    {x' i' : A} (hx : compA x = some x') (hi : compA i = some i') {r : Res} (he : bind2 (av σ p x') (av σ p i') (iaddrSR zero) = some r) (hpre : ∀ q ∈ r.pre, q) : Calm P Z w θ a o r := by
  obtain ⟨vx, vi, hvx, hvi, h⟩ := bind2_some he
  have hrx := av_rep hs hp hx hvx
  have hri := av_rep hs hp hi hvi
  generalize ex : a.eval x = v1 at hrx
  generalize ei : a.eval i = v2 at hri
  cases vx <;> try (cases h; done)
  cases vi <;> try (cases h; done)
  rename_i z es k n
  simp only [iaddrSR] at h
  split at h <;> try (cases h; done)
  rename_i hz0
  simp only [Option.some.injEq] at h
  subst h
  have hb : 0 ≤ n ∧ n < (es.length : Int) := hpre _ (by simp)
  cases hri
  cases hrx with
  | lst _ _ _ ad cap f hc hm hz hat hmem h1 hh =>
    have hne : es ≠ [] := by rintro rfl; simp at hb; omega
    obtain ⟨b, o', rfl, hZ, hcell⟩ := hmem hne
    refine ⟨rfl, rfl, ?_, .pointer (some ⟨b, o' + (n.toNat * zero.length + 0), none⟩), ?_, ?_⟩
    · intro q hq
      simp only [List.mem_singleton] at hq
      subst hq
      unfold maxLen at hm
      omega
    · simp [execOp, ho, ex, ei, Instr.indexAt, asIntOf, run_underlying hu, hb, run_sizeP hsz, add_none, hzero]
    · exact .ep _ _ _ _ _ _ _ f (by omega) (fun e he => (hz e he).trans hz0) hat hZ (fun i j c hc => by rw [← hz0]; exact hcell i j c hc) h1 hh

theorem calm_iaddrA {o : Oper} {t e : TypeId} {n : Nat} {x i : Operand} (ho : o.op = .indexAddr t x i) (hu : P.underlying t = some (.array n e)) {sz : Nat} (hsz : sizeP P e = some sz)
    {x' i' : A} (hx : compA x = some x') (hi : compA i = some i') {r : Res} (he : bind2 (av σ p x') (av σ p i') (fun v u => iaddrAR n sz v i' u) = some r) (hpre : ∀ q ∈ r.pre, q) : Calm P Z w θ a o r := by
  obtain ⟨vx, vi, hvx, hvi, h⟩ := bind2_some he
  have hrx := av_rep hs hp hx hvx
  generalize ex : a.eval x = v1 at hrx
  unfold iaddrAR at h
  split at h <;> try (cases h; done)
  · rename_i r' off k j
    cases hrx
    rename_i b hθ
    have hpi : 0 ≤ j ∧ j < (n : Int) := by
      simp only [Res.qp, Option.some.injEq] at h; subst h
      exact hpre _ (by simp)
    have hei : a.eval i = .int k j := by
      have hri := av_rep hs hp hi (show av σ p (.c (.int k j)) = some (.int k j) from rfl)
      generalize a.eval i = v at hri
      cases hri; rfl
    exact .qp h (v := .pointer (some ⟨b, off + j.toNat * sz, none⟩)) (by simp [execOp, ho, ex, hei, Instr.indexAt, asIntOf, run_underlying hu, Instr.sureAddr, hpi, run_sizeP hsz, add_none]) (.ptr _ _ _ _ hθ)
  · rename_i r' off d k j
    have hri := av_rep hs hp hi hvi
    cases hrx
    rename_i b hθ
    have hpi : 0 ≤ j ∧ j < (n : Int) := by
      simp only [Res.qp, Option.some.injEq] at h; subst h
      exact hpre _ (by simp)
    have hei : a.eval i = .int k j := by
      generalize a.eval i = v at hri
      cases hri; rfl
    have hsel : sel n j = j.toNat := by unfold sel; rw [if_pos (by omega)]
    rw [hsel] at h
    exact .qp h (v := .pointer (some ⟨b, off + j.toNat * sz, none⟩)) (by simp [execOp, ho, ex, hei, Instr.indexAt, asIntOf, run_underlying hu, Instr.sureAddr, hpi, run_sizeP hsz, add_none]) (.ptr _ _ _ _ hθ)

theorem calm_load {o : Oper} {t : TypeId} {x : Operand} (ho : o.op = .load t x) {n : Nat} (hn : sizeP P t = some n) {u : TypeDesc} (hu : P.underlying t = some u) {x' : A} (hc : compA x = some x') {r : Res}
    (hm : ∀ r blk, σ.m r = some blk → BRep Z w θ r blk) (he : bind1 (av σ p x') (loadR σ.m n (aggP P t)) = some r) (hpre : ∀ q ∈ r.pre, q) : Calm P Z w θ a o r := by
  obtain ⟨y, hy, h⟩ := bind1_some he
  have hr := av_rep hs hp hc hy
  have hrun : ∀ (b off : Nat) (res : Value), a.eval x = .pointer (some ⟨b, off, none⟩) → (loadVar t ⟨b, off, none⟩).run P w = .ok res w → (execOp a.eval o).run P w = .ok (.value res) w := by
    intro b off res hv hl
    simp [execOp, ho, hv, Instr.loadAt, Instr.sureAddr, hl]
  generalize hv : a.eval x = v at hr hrun
  cases y <;> try (cases h; done)
  · rename_i z es i off
    simp only [loadR] at h
    split at h <;> try (cases h; done)
    rename_i val hval
    cases hr with
    | ep _ _ _ _ _ b o' f' hi hz hat hb hmem h1 hh =>
      have hcs := ep_cells (Z := Z) (w := w) hi hz hat h1 hh θ
      obtain ⟨us, hl, hus, res, hres, hag⟩ := cells_val hcs hval
      refine .q h (hrun _ _ res rfl (run_loadVar_cells hn hu hl ?_ hag)) hres
      intro j v hj
      have hv' := hus j v hj
      rw [List.getElem?_map] at hv'
      obtain ⟨j', hj', rfl⟩ := Option.map_eq_some_iff.1 hv'
      obtain ⟨hlt, e⟩ := List.getElem?_eq_some_iff.1 hj'
      simp at e hlt
      subst e
      have hlt' : off + j < (es[i]).length := by rw [hz _ (List.getElem_mem hi)]; exact hlt
      have := hmem i (off + j) (es[i][off + j]) (by simp [cellAt, List.getElem?_eq_getElem hi, List.getElem?_eq_getElem hlt'])
      rw [show o' + (i * z.length + off) + j = o' + (i * z.length + (off + j)) by omega]
      exact this
  · rename_i rr off
    simp only [loadR] at h
    split at h <;> try (cases h; done)
    rename_i cs hmr
    split at h <;> try (cases h; done)
    rename_i val hval
    cases hr with
    | ptr _ _ _ b hθ =>
      obtain ⟨b', T, vs, hθ', hheap, hZ, hcs⟩ := hm _ _ hmr
      rw [hθ] at hθ'
      simp at hθ'
      subst hθ'
      obtain ⟨us, hl, hus, res, hres, hag⟩ := cells_val hcs hval
      simp only [Option.some.injEq] at h
      subst h
      refine ⟨rfl, rfl, by simp, res, hrun _ _ res rfl (run_loadVar_cells hn hu hl ?_ hag), hres⟩
      intro j v hj
      rw [cell_of_row w b (off + j) vs.toArray T (0, 0) hheap]
      simpa using hus j v hj
  · rename_i rr sz i off
    simp only [loadR] at h
    split at h <;> try (cases h; done)
    rotate_left
    · rename_i T z es hmr
      split at h <;> try (cases h; done)
      rename_i val hsz hval
      have hsz : z.length = sz := by simpa using hsz
      subst hsz
      simp only [Option.some.injEq] at h
      subst h
      have hi : i < es.length := hpre _ (by simp)
      cases hr with
      | bp _ _ _ _ _ b o0 n c hθ =>
        obtain ⟨hz0, hz, xs, hown, hnz, hcs⟩ := hm _ _ hmr
        rw [hθ] at hown
        have hrow := row_cells (z := z) hz hcs hi θ
        obtain ⟨us, hl, hus, res, hres, hag⟩ := cells_val hrow hval
        refine ⟨rfl, rfl, by simp, res, hrun _ _ res rfl (run_loadVar_cells hn hu hl ?_ hag), hres⟩
        intro j v hj
        have h1 := hus j v hj
        rw [List.getElem?_take] at h1
        split at h1 <;> try (cases h1; done)
        rw [List.getElem?_drop] at h1
        have := hown.cells _ v h1
        rw [show o0 + (i * z.length + off) + j = o0 + (i * z.length + (off + j)) by omega]
        exact this
    rename_i T z es hmr
    split at h <;> try (cases h; done)
    rename_i val hsz hval
    have hsz : z.length = sz := by simpa using hsz
    subst hsz
    simp only [Option.some.injEq] at h
    subst h
    have hi : i < es.length := hpre _ (by simp)
    cases hr with
    | bp _ _ _ _ _ b o0 n c hθ =>
      obtain ⟨hz0, hz, xs, hown, hnz, hcs⟩ := hm _ _ hmr
      rw [hθ] at hown
      obtain rfl := row_off hown
      have hrow := row_cells (z := z) hz hcs hi θ
      obtain ⟨us, hl, hus, res, hres, hag⟩ := cells_val hrow hval
      refine ⟨rfl, rfl, by simp, res, hrun _ _ res rfl (run_loadVar_cells hn hu hl ?_ hag), hres⟩
      intro j v hj
      have h1 := hus j v hj
      rw [List.getElem?_take] at h1
      split at h1 <;> try (cases h1; done)
      rw [List.getElem?_drop] at h1
      have := hown.cells (g := b) rfl _ v h1
      rw [add_none] at this
      rw [show 0 + (i * z.length + off) + j = 0 + (i * z.length + (off + j)) by omega]
      exact this


omit hs hp in
theorem foldl_set (vs : List Value) : ∀ (cs : List Value) (off : Nat), off + vs.length ≤ cs.length →
    (vs.toArray.zipIdx.foldl (fun (cs : Array Value) (x : Value × Nat) => cs.setIfInBounds (off + x.2) x.1) cs.toArray) = (cs.take off ++ vs ++ cs.drop (off + vs.length)).toArray := by
  have key : ∀ (vs : List Value) (cs : List Value) (off k : Nat), off + k + vs.length ≤ cs.length →
      ((vs.zipIdx k).foldl (fun (cs : Array Value) (x : Value × Nat) => cs.setIfInBounds (off + x.2) x.1) cs.toArray) = (cs.take (off + k) ++ vs ++ cs.drop (off + k + vs.length)).toArray := by
    intro vs
    induction vs with
    | nil => intro cs off k _; simp
    | cons v vs ih =>
      intro cs off k h
      simp only [List.length_cons] at h
      rw [List.zipIdx_cons, List.foldl_cons]
      have e : (cs.toArray.setIfInBounds (off + k) v) = (cs.set (off + k) v).toArray := by simp
      simp only
      rw [e, ih (cs.set (off + k) v) off (k + 1) (by simp; omega)]
      congr 1
      rw [show off + (k + 1) = off + k + 1 by omega]
      exact list_seg_step cs (off + k) v vs (by omega)
  intro cs off h
  have := key vs cs off 0 (by omega)
  simp only [Nat.add_zero] at this
  rw [← this, ← Array.foldl_toList]
  congr 1
  simp

omit hs hp in
/-- One part of a literal, laid into its cells. -/
theorem fill_step {place : Nat → Option (Nat × Nat)} {cs : List Value} {i off n : Nat} {v : Value} {vs : List Value} {rest : List (Nat × Value)} (hpl : place i = some (off, n)) (hv : v.cells = vs.toArray) (hn : vs.length = n) (ho : off + n ≤ cs.length) :
    Instr.fill place cs.toArray ((i, v) :: rest) = Instr.fill place (cs.take off ++ vs ++ cs.drop (off + vs.length)).toArray rest := by
  conv => lhs; unfold Instr.fill
  simp only [hpl, hv, List.size_toArray, hn]
  rw [if_neg (by simp; omega)]
  rw [foldl_set vs cs off (by omega), hn]

/-- The parts of a struct's literal. -/
theorem fill_parts (fs : Array Field) (place : Nat → Option (Nat × Nat)) (hpl : ∀ (i : Nat) (f : Field) (s : Nat), fs[i]? = some f → sizeP P f.type = some s → place i = some (f.offset, s)) :
    ∀ (ps : List (Nat × Operand)) (qs : List (Nat × Nat × A)) (cs xs : List AV) (vs : List Value), compParts P fs ps = some qs → fillA σ p cs qs = some xs → Cells Z w θ cs vs →
      ∃ us, Instr.fill place vs.toArray (ps.map fun x => (x.1, a.eval x.2)) = some (List.toArray us) ∧ Cells Z w θ xs us
  | [], qs, cs, xs, vs, hc, hf, hcs => by
    simp [compParts] at hc; subst hc
    simp [fillA] at hf; subst hf
    exact ⟨vs, by simp [Instr.fill], hcs⟩
  | (i, x) :: ps, qs, cs, xs, vs, hc, hf, hcs => by
    unfold compParts at hc
    split at hc <;> try (cases hc; done)
    rename_i fd x' rs hfd hx' hrs
    split at hc <;> try (cases hc; done)
    rename_i s hsz
    simp only [Option.some.injEq] at hc
    subst hc
    unfold fillA at hf
    split at hf <;> try (cases hf; done)
    rename_i y hy
    split at hf <;> try (cases hf; done)
    rename_i ds hds
    split at hf <;> try (cases hf; done)
    rename_i hle
    have hr := av_rep hs hp hx' hy
    obtain ⟨hlen, us, hus, hcu⟩ := cellsOfAV_spec hds hr
    have hul : us.length = s := by rw [hcu.len, hlen]
    rw [List.map_cons, fill_step (hpl i fd s hfd hsz) hus hul (by rw [hcs.len]; exact hle)]
    exact fill_parts fs place hpl ps rs _ xs _ hrs hf (hcs.set hcu (by rw [hlen]; exact hle))

/-- The parts of an array's literal. -/
theorem fill_partsA (sz : Nat) :
    ∀ (ps : List (Nat × Operand)) (qs : List (Nat × Nat × A)) (cs xs : List AV) (vs : List Value), compPartsA sz ps = some qs → fillA σ p cs qs = some xs → Cells Z w θ cs vs →
      ∃ us, Instr.fill (fun i => some (i * sz, sz)) vs.toArray (ps.map fun x => (x.1, a.eval x.2)) = some (List.toArray us) ∧ Cells Z w θ xs us
  | [], qs, cs, xs, vs, hc, hf, hcs => by
    simp [compPartsA] at hc; subst hc
    simp [fillA] at hf; subst hf
    exact ⟨vs, by simp [Instr.fill], hcs⟩
  | (i, x) :: ps, qs, cs, xs, vs, hc, hf, hcs => by
    unfold compPartsA at hc
    split at hc <;> try (cases hc; done)
    rename_i x' rs hx' hrs
    simp only [Option.some.injEq] at hc
    subst hc
    unfold fillA at hf
    split at hf <;> try (cases hf; done)
    rename_i y hy
    split at hf <;> try (cases hf; done)
    rename_i ds hds
    split at hf <;> try (cases hf; done)
    rename_i hle
    have hr := av_rep hs hp hx' hy
    obtain ⟨hlen, us, hus, hcu⟩ := cellsOfAV_spec hds hr
    have hul : us.length = sz := by rw [hcu.len, hlen]
    rw [List.map_cons, fill_step rfl hus hul (by rw [hcs.len]; exact hle)]
    exact fill_partsA sz ps rs _ xs _ hrs hf (hcs.set hcu (by rw [hlen]; exact hle))

omit hs hp in
theorem run_places (fs : List Field) (h : ∀ f ∈ fs, (P.info? f.type).isSome = true) :
    (fs.mapM (fun f => (do pure (f.offset, ← sizeOf f.type) : Sem (Nat × Nat)))).run P w = .ok (fs.map fun f => (f.offset, P.cellsOf f.type)) w := by
  induction fs with
  | nil => simp
  | cons f fs ih =>
    obtain ⟨i, hi⟩ := Option.isSome_iff_exists.1 (h f (by simp))
    simp only [List.mapM_cons, Sem.run_bind, run_sizeOf w hi, Result.andThen_ok, Sem.run_pure, ih (fun g hg => h g (by simp [hg])), List.map_cons]

omit hs hp in
theorem zeroP_spec {t : TypeId} {z : List AV} (h : zeroP P t = some z) : ∃ v, (∀ w, (zeroValue t).run P w = .ok v w) ∧ ∃ vs, v.cells = List.toArray vs ∧ Cells Z w θ z vs ∧ z.all AV.clean0 = true := by
  unfold zeroP at h
  split at h <;> try (cases h; done)
  rename_i v hv
  rw [Option.bind_eq_some_iff] at hv
  obtain ⟨i, hi, hz⟩ := hv
  have := constAVs_cells (Z := Z) (w := w) (θ := θ) h
  refine ⟨v, fun w => by simp [zeroValue, run_typeInfo w hi, hz], v.cells.toList, by simp, this.1, this.2⟩

theorem calm_buildS {o : Oper} {t : TypeId} {ps : Array (Nat × Operand)} (ho : o.op = .build t ps) {fs : Array Field} (hu : P.underlying t = some (.struct fs)) (hall : fs.all (fun f => (P.info? f.type).isSome) = true) {z : List AV} (hz : zeroP P t = some z)
    {qs : List (Nat × Nat × A)} (hc : compParts P fs ps.toList = some qs) {r : Res} (he : (match fillA σ p z qs with | some cs => Res.q (.agg cs) | none => none) = some r) : Calm P Z w θ a o r := by
  split at he <;> try (cases he; done)
  rename_i xs hxs
  obtain ⟨v, hzero, vs, hvs, hcs, hcl⟩ := zeroP_spec (Z := Z) (w := w) (θ := θ) hz
  have hall' : ∀ f ∈ fs.toList, (P.info? f.type).isSome = true := by
    intro f hf
    have := (Array.all_eq_true_iff_forall_mem).1 hall f (by simpa using hf)
    exact this
  obtain ⟨us, hfill, hcu⟩ := fill_parts hs hp fs (fun i => ((fs.toList.map fun f => (f.offset, P.cellsOf f.type)).toArray)[i]?) (by
    intro i f s hf hsz
    obtain ⟨j, hj, rfl⟩ := sizeP_info hsz
    simp [hf, Program.cellsOf, hj]) ps.toList qs z xs vs hc hxs hcs
  refine .q he (v := .agg us.toArray) ?_ hcu.agg
  have hm : (fs.mapM (fun f => (do pure (f.offset, ← sizeOf f.type) : Sem (Nat × Nat)))).run P w = .ok (fs.toList.map fun f => (f.offset, P.cellsOf f.type)).toArray w := by
    rw [Array.mapM_eq_mapM_toList, Sem.run_map, run_places fs.toList hall']
    rfl
  have hparts : (ps.map fun x => (x.1, a.eval x.2)).toList = ps.toList.map fun x => (x.1, a.eval x.2) := by simp
  simp only [execOp, ho, Instr.build, Sem.run_bind, hzero, Result.andThen_ok, run_underlying hu, hm, hvs, hparts, hfill, Sem.run_pure]

theorem calm_buildA {o : Oper} {t e : TypeId} {n : Nat} {ps : Array (Nat × Operand)} (ho : o.op = .build t ps) (hu : P.underlying t = some (.array n e)) {z : List AV} (hz : zeroP P t = some z) {sz : Nat} (hsz : sizeP P e = some sz)
    {qs : List (Nat × Nat × A)} (hc : compPartsA sz ps.toList = some qs) {r : Res} (he : (match fillA σ p z qs with | some cs => Res.q (.agg cs) | none => none) = some r) : Calm P Z w θ a o r := by
  split at he <;> try (cases he; done)
  rename_i xs hxs
  obtain ⟨v, hzero, vs, hvs, hcs, hcl⟩ := zeroP_spec (Z := Z) (w := w) (θ := θ) hz
  obtain ⟨us, hfill, hcu⟩ := fill_partsA hs hp sz ps.toList qs z xs vs hc hxs hcs
  refine .q he (v := .agg us.toArray) ?_ hcu.agg
  have hparts : (ps.map fun x => (x.1, a.eval x.2)).toList = ps.toList.map fun x => (x.1, a.eval x.2) := by simp
  simp only [execOp, ho, Instr.build, Sem.run_bind, hzero, Result.andThen_ok, run_underlying hu, run_sizeP hsz, hvs, hparts, hfill, Sem.run_pure]

end
end Go.Ev
