/- A part of the proof: symbolic evaluation of the program's functions, proved sound against the model; no condition. -/
/-
  The framework 'Ev', part G: the kept blocks over steps of the world; operations that make or write memory; calls.
  Conditions: none; a text of lemmas.
-/
import Derived.Test.YteakklbbdfgbdaaEvF
namespace Go.Ev
open Go Go.RowKit
set_option linter.unusedVariables false
set_option linter.unusedSectionVars false
set_option linter.unusedSimpArgs false

/-- What stays the same over a call: the world at its beginning, the block that it may write, the blocks frozen then, the kept blocks handed in. -/
structure Cx where
  w0 : World
  wr : Option Nat
  Z0 : Nat → Prop
  θ0 : Nat → Value

structure FrameBut (wr : Option Nat) (w w' : World) : Prop where
  os : w'.os = w.os
  tape : w'.tape = w.tape
  output : w'.output = w.output
  size : w.heap.size ≤ w'.heap.size
  block : ∀ k, k < w.heap.size → wr ≠ some k → w'.heap[k]? = w.heap[k]?

theorem FrameBut.refl (wr : Option Nat) (w : World) : FrameBut wr w w := ⟨rfl, rfl, rfl, Nat.le_refl _, fun _ _ _ => rfl⟩

abbrev pt (b : Nat) : Value := .pointer (some ⟨b, 0, none⟩)

structure Mem (X : Cx) (Z : Nat → Prop) (w : World) (θ : Nat → Value) (m : Nat → Option Blk) : Prop where
  brep : ∀ r blk, m r = some blk → BRep Z w θ r blk
  disj : ∀ r r' b, (m r).isSome = true → (m r').isSome = true → bk (θ r) = some b → bk (θ r') = some b → r = r'
  own : ∀ r b, (m r).isSome = true → bk (θ r) = some b → X.w0.heap.size ≤ b ∨ (r < 64 ∧ X.wr = some b)
  zlt : ∀ b, Z b → b < w.heap.size
  frame : FrameBut X.wr X.w0 w
  zin : ∀ b, X.Z0 b → Z b
  znew : ∀ b, Z b → X.Z0 b ∨ X.w0.heap.size ≤ b
  fix : ∀ r, r < 64 → θ r = X.θ0 r

theorem lt_of_get {w : World} {b : Nat} {x : Obj} (h : w.heap[b]? = some x) : b < w.heap.size := (Array.getElem?_eq_some_iff.1 h).1

theorem ownsRow_lt {w : World} {base size n : Nat} {T : TypeId} {v : Value} {xs : List Value} (h : w.ownsRow base T size v n xs) : ∀ b, bk v = some b → b < w.heap.size := by
  intro b hb
  obtain ⟨_, ⟨rfl, _⟩ | ⟨g, cap, cur, rfl, _, hg, _⟩⟩ := h
  · cases hb
  · simp [bk] at hb; subst hb; exact lt_of_get hg
theorem ownsRow_of {w w' : World} {base size n : Nat} {T : TypeId} {v : Value} {xs : List Value} (h : w.ownsRow base T size v n xs) (hb : ∀ b, bk v = some b → b < w.heap.size → w'.heap[b]? = w.heap[b]?) : w'.ownsRow base T size v n xs := by
  obtain ⟨h0, h1⟩ := h
  refine ⟨h0, ?_⟩
  rcases h1 with h1 | ⟨g, cap, cur, rfl, h2, hg, h3⟩
  · exact .inl h1
  · exact .inr ⟨g, cap, cur, rfl, h2, (hb g rfl (lt_of_get hg)).trans hg, h3⟩
theorem qrow_lt {w : World} {k n : Nat} {T : TypeId} {v : Value} {xs : List Value} (h : QRow w T k v n xs) : ∀ b, bk v = some b → b < w.heap.size := by
  intro b hb
  obtain ⟨_, ⟨rfl, _⟩ | ⟨g, o, cap, cur, rfl, hg, _⟩⟩ := h
  · cases hb
  · simp [bk] at hb; subst hb; exact lt_of_get hg
theorem qrow_of {w w' : World} {k n : Nat} {T : TypeId} {v : Value} {xs : List Value} (h : QRow w T k v n xs) (hb : ∀ b, bk v = some b → b < w.heap.size → w'.heap[b]? = w.heap[b]?) : QRow w' T k v n xs := by
  obtain ⟨h0, h1⟩ := h
  refine ⟨h0, ?_⟩
  rcases h1 with h1 | ⟨g, o, cap, cur, rfl, hg, h3⟩
  · exact .inl h1
  · exact .inr ⟨g, o, cap, cur, rfl, (hb g rfl (lt_of_get hg)).trans hg, h3⟩
/-- The world goes on; at most the kept block r0 is written. -/
theorem Mem.stepW {X : Cx} {Z Z' : Nat → Prop} {w w' : World} {θ : Nat → Value} {m m' : Nat → Option Blk} (h : Mem X Z w θ m) (r0 : Option Nat)
    (hz : ∀ b, Z b → Z' b) (hz' : ∀ b, Z' b → Z b ∨ w.heap.size ≤ b) (zlt : ∀ b, Z' b → b < w'.heap.size)
    (os : w'.os = w.os) (tape : w'.tape = w.tape) (output : w'.output = w.output) (size : w.heap.size ≤ w'.heap.size)
    (blocks : ∀ k, k < w.heap.size → (∀ r, r0 = some r → bk (θ r) ≠ some k) → w'.heap[k]? = w.heap[k]?)
    (hm : ∀ r, r0 ≠ some r → m' r = m r) (hr : ∀ r, r0 = some r → (m r).isSome = true ∧ ∀ blk, m' r = some blk → BRep Z' w' θ r blk) :
    Mem X Z' w' θ m' ∧ Goes Z w Z' w' := by
  have hZb : ∀ b, Z b → ∀ r, r0 = some r → bk (θ r) ≠ some b := by
    intro b hb r hr0 ht
    obtain ⟨hs, _⟩ := hr r hr0
    obtain ⟨blk, hblk⟩ := Option.isSome_iff_exists.1 hs
    have := h.brep r blk hblk
    cases blk with
    | cells cs =>
      obtain ⟨b', T, vs, ht', _, hnz, _⟩ := this
      rw [ht'] at ht; simp [bk] at ht; subst ht; exact hnz hb
    | buf T z es =>
      obtain ⟨_, _, xs, _, hnz, _⟩ := this
      exact hnz b ht hb
    | qb T z es =>
      obtain ⟨_, _, xs, _, hnz, _⟩ := this
      exact hnz b ht hb
    | ms n ks =>
      obtain ⟨b', E, clock, ht', _, hnz, _⟩ := this
      rw [ht'] at ht; simp [bk] at ht; subst ht; exact hnz hb
    | clo f z es i off =>
      obtain ⟨v, ht', _⟩ := this
      rw [ht'] at ht; cases ht
    | dead => exact this.elim
  have g : Goes Z w Z' w' := ⟨hz, fun b hb => blocks b (h.zlt b hb) (hZb b hb)⟩
  have some_of : ∀ r, (m' r).isSome = true → (m r).isSome = true := by
    intro r hs
    by_cases e : r0 = some r
    · exact (hr r e).1
    · rwa [hm r e] at hs
  refine ⟨⟨?_, ?_, ?_, zlt, ?_, fun b hb => hz b (h.zin b hb), ?_, h.fix⟩, g⟩
  · intro r blk hblk
    by_cases e : r0 = some r
    · exact (hr r e).2 blk hblk
    · rw [hm r e] at hblk
      have hb := h.brep r blk hblk
      cases blk with
      | dead => exact hb.elim
      | clo f z es i off =>
        obtain ⟨v, ht, hv⟩ := hb
        exact ⟨v, ht, hv.step g⟩
      | ms n ks =>
        obtain ⟨b, E, clock, ht, hh, hnz, hk⟩ := hb
        refine ⟨b, E, clock, ht, ?_, ?_, hk⟩
        · rw [blocks b (lt_of_get hh) ?_]; exact hh
          intro r' hr' ht'
          have := h.disj r r' b (by rw [hblk]; rfl) (hr r' hr').1 (by rw [ht]; rfl) ht'
          subst this
          exact e hr'
        · intro hb'
          rcases hz' b hb' with h1 | h1
          · exact hnz h1
          · have := lt_of_get hh; omega
      | qb T z es =>
        obtain ⟨hz0, hlen, xs, hrow, hnz, hcs⟩ := hb
        refine ⟨hz0, hlen, xs, ?_, ?_, hcs.step g⟩
        · refine qrow_of hrow fun b hb' hlt => blocks b hlt ?_
          intro r' hr' ht'
          have := h.disj r r' b (by rw [hblk]; rfl) (hr r' hr').1 hb' ht'
          subst this
          exact e hr'
        · intro b hb' hzb
          rcases hz' b hzb with h1 | h1
          · exact hnz b hb' h1
          · have := qrow_lt hrow b hb'; omega
      | buf T z es =>
        obtain ⟨hz0, hlen, xs, hrow, hnz, hcs⟩ := hb
        refine ⟨hz0, hlen, xs, ?_, ?_, hcs.step g⟩
        · refine ownsRow_of hrow fun b hb' hlt => blocks b hlt ?_
          intro r' hr' ht'
          have := h.disj r r' b (by rw [hblk]; rfl) (hr r' hr').1 hb' ht'
          subst this
          exact e hr'
        · intro b hb' hzb
          rcases hz' b hzb with h1 | h1
          · exact hnz b hb' h1
          · have := ownsRow_lt hrow b hb'; omega
      | cells cs =>
        obtain ⟨b, T, vs, ht, hh, hnz, hcs⟩ := hb
        refine ⟨b, T, vs, ht, ?_, ?_, hcs.step g⟩
        · rw [blocks b (lt_of_get hh) ?_]; exact hh
          intro r' hr' ht'
          have := h.disj r r' b (by rw [hblk]; rfl) (hr r' hr').1 (by rw [ht]; rfl) ht'
          subst this
          exact e hr'
        · intro hb'
          rcases hz' b hb' with h1 | h1
          · exact hnz h1
          · have := lt_of_get hh; omega
  · intro r r' b h1 h2 h3 h4; exact h.disj r r' b (some_of r h1) (some_of r' h2) h3 h4
  · intro r b h1 h2; exact h.own r b (some_of r h1) h2
  · refine ⟨os.trans h.frame.os, tape.trans h.frame.tape, output.trans h.frame.output, Nat.le_trans h.frame.size size, fun k hk hmu => ?_⟩
    rw [blocks k (Nat.lt_of_lt_of_le hk h.frame.size) ?_]
    · exact h.frame.block k hk hmu
    · intro r hr0 ht
      rcases h.own r k (hr r hr0).1 ht with h1 | h1
      · omega
      · exact hmu h1.2
  · intro b hb
    rcases hz' b hb with h1 | h1
    · exact h.znew b h1
    · have := h.frame.size; right; omega

theorem Cells.th' {Z : Nat → Prop} {w : World} {θ θ' : Nat → Value} {cs : List AV} {vs : List Value} (h : Cells Z w θ cs vs) (r : Nat) (ht : ∀ k, k ≠ r → θ' k = θ k) : Cells Z w θ' (cs.map (kill0 r)) vs := h.kill r ht

/-- A kept block, new or taken over, at number r. -/
theorem Mem.put1 {X : Cx} {Z : Nat → Prop} {w : World} {θ : Nat → Value} {m : Nat → Option Blk} (h : Mem X Z w θ m) (r : Nat) (vv : Value) (blk : Blk) (hr : 64 ≤ r)
    (hB : BRep Z w (fun k => if k = r then vv else θ k) r (killB r blk)) (hnew : ∀ r' blk', r' ≠ r → m r' = some blk' → ∀ b, bk vv = some b → bk (θ r') ≠ some b) (hown : ∀ b, bk vv = some b → X.w0.heap.size ≤ b) :
    Mem X Z w (fun k => if k = r then vv else θ k) (updM (killM r m) r (some (killB r blk))) := by
  have ht : ∀ k, k ≠ r → (fun k => if k = r then vv else θ k) k = θ k := fun k hk => by simp [hk]
  have some_of : ∀ k, k ≠ r → (updM (killM r m) r (some (killB r blk)) k).isSome = true → (m k).isSome = true := by
    intro k hk hs
    simp only [updM, hk, if_false, killM] at hs
    cases hmk : m k with
    | none => rw [hmk] at hs; cases hs
    | some blk => rfl
  refine ⟨?_, ?_, ?_, h.zlt, h.frame, h.zin, h.znew, ?_⟩
  · intro k blk1 hk
    by_cases e : k = r
    · subst e
      simp only [updM, if_true, Option.some.injEq] at hk
      subst hk
      exact hB
    · simp only [updM, e, if_false, killM] at hk
      split at hk <;> try (cases hk; done)
      rename_i blk' hblk'
      simp only [Option.some.injEq] at hk; subst hk
      have := h.brep k blk' hblk'
      cases blk' with
      | dead => exact this.elim
      | clo f z es i off =>
        obtain ⟨v, h1, h2⟩ := this
        exact ⟨v, by simp [e, h1], h2⟩
      | ms n ks =>
        obtain ⟨b', E, clock, h1, h2, h3, h4⟩ := this
        exact ⟨b', E, clock, by simp [e, h1], h2, h3, h4⟩
      | qb T z es =>
        obtain ⟨h0, h1, xs, h2, h3, h4⟩ := this
        exact ⟨h0, h1, xs, by simp only [e, if_false]; exact h2, by simp only [e, if_false]; exact h3, h4⟩
      | buf T z es =>
        obtain ⟨h0, h1, xs, h2, h3, h4⟩ := this
        exact ⟨h0, h1, xs, by simp only [e, if_false]; exact h2, by simp only [e, if_false]; exact h3, h4⟩
      | cells cs' =>
        obtain ⟨b', T', vs', h1, h2, h3, h4⟩ := this
        exact ⟨b', T', vs', by simp [e, h1], h2, h3, h4.kill r ht⟩
  · intro k k' b' h1 h2 h3 h4
    by_cases e : k = r
    · by_cases e' : k' = r
      · rw [e, e']
      · subst e
        simp only [if_true] at h3
        simp only [e', if_false] at h4
        have hs := some_of k' e' h2
        obtain ⟨blk, hblk⟩ := Option.isSome_iff_exists.1 hs
        exact absurd h4 (hnew k' blk e' hblk b' h3)
    · by_cases e' : k' = r
      · subst e'
        simp only [if_true] at h4
        simp only [e, if_false] at h3
        have hs := some_of k e h1
        obtain ⟨blk, hblk⟩ := Option.isSome_iff_exists.1 hs
        exact absurd h3 (hnew k blk e hblk b' h4)
      · simp only [e, if_false] at h3
        simp only [e', if_false] at h4
        exact h.disj k k' b' (some_of k e h1) (some_of k' e' h2) h3 h4
  · intro k b' h1 h2
    by_cases e : k = r
    · subst e
      simp only [if_true] at h2
      exact .inl (hown b' h2)
    · simp only [e, if_false] at h2
      exact h.own k b' (some_of k e h1) h2
  · intro k hk
    have : k ≠ r := by omega
    simp [this, h.fix k hk]

/-- What is kept lies in the heap. -/
theorem Mem.lt {X : Cx} {Z : Nat → Prop} {w : World} {θ : Nat → Value} {m : Nat → Option Blk} (h : Mem X Z w θ m) {r : Nat} {blk : Blk} (hr : m r = some blk) {b : Nat} (hb : bk (θ r) = some b) : b < w.heap.size := by
  have := h.brep r blk hr
  cases blk with
  | dead => exact this.elim
  | clo f z es i off =>
    obtain ⟨v, h1, _⟩ := this
    rw [h1] at hb; cases hb
  | ms n ks =>
    obtain ⟨b', E, clock, h1, h2, _⟩ := this
    rw [h1] at hb; simp [bk] at hb; subst hb
    exact lt_of_get h2
  | qb T z es =>
    obtain ⟨_, _, xs, h2, _⟩ := this
    exact qrow_lt h2 b hb
  | cells cs =>
    obtain ⟨b', T, vs, h1, h2, _⟩ := this
    rw [h1] at hb; simp [bk] at hb; subst hb
    exact lt_of_get h2
  | buf T z es =>
    obtain ⟨_, _, xs, h2, _⟩ := this
    exact ownsRow_lt h2 b hb

/-- A new kept block. -/
theorem Mem.add {X : Cx} {Z : Nat → Prop} {w : World} {θ : Nat → Value} {m : Nat → Option Blk} (h : Mem X Z w θ m) (r b : Nat) (T : TypeId) (cs : List AV) (vs : List Value) (hr : 64 ≤ r)
    (hb : w.heap[b]? = some (.cells (List.toArray vs) T (0, 0))) (hZ : ¬ Z b) (hnew : ∀ r' blk, m r' = some blk → bk (θ r') ≠ some b) (hown : X.w0.heap.size ≤ b) (hcs : Cells Z w θ cs vs) :
    Mem X Z w (fun k => if k = r then pt b else θ k) (updM (killM r m) r (some (killB r (.cells cs)))) := by
  refine h.put1 r (pt b) (.cells cs) hr ?_ ?_ ?_
  · exact ⟨b, T, vs, by simp, hb, hZ, hcs.kill r (fun k hk => by simp [hk])⟩
  · intro r' blk' _ hr' b' hb'
    simp [bk] at hb'; subst hb'
    exact hnew r' blk' hr'
  · intro b' hb'
    simp [bk] at hb'; subst hb'
    exact hown

def newM (d : Nat) (m : Nat → Option Blk) (r : Res) : Nat → Option Blk := match r.new with
  | none => updL m r.ups
  | some (i, b) => updM (killM i (updL m r.ups)) i (some (killB i b))

/-- What an operation leaves. -/
structure Out (X : Cx) (Z : Nat → Prop) (w : World) (θ : Nat → Value) (m : Nat → Option Blk) (d : Nat) (r : Res) (v : Value) (Z' : Nat → Prop) (w' : World) (θ' : Nat → Value) : Prop where
  val : Rep Z' w' θ' r.val v
  goes : Goes Z w Z' w'
  th : ∀ k, (∀ i b, r.new = some (i, b) → k ≠ i) → θ' k = θ k
  mem : Mem X Z' w' θ' (newM d m r)
  post : ∀ q ∈ r.post, q

def OpOK (P : Program) (X : Cx) (Z : Nat → Prop) (w : World) (θ : Nat → Value) (m : Nat → Option Blk) (a : Act) (o : Oper) (d : Nat) (r : Res) : Prop :=
  ∀ (K : Act → World → Prop) (Q : Exit → Act → World → Prop), (∀ v Z' w' θ', Out X Z w θ m d r v Z' w' θ' → K (a.put o.dst v) w') → o.wp P a w K Q

section
variable {P : Program} {X : Cx} {Z : Nat → Prop} {w : World} {θ : Nat → Value} {a : Act} {σ : St} {p : List (Nat × Bool)}

theorem OpOK.of_calm {o : Oper} {d : Nat} {r : Res} {m : Nat → Option Blk} (h : Calm P Z w θ a o r) (hm : Mem X Z w θ m) : OpOK P X Z w θ m a o d r := by
  intro K Q hK
  obtain ⟨h1, h2, h3, v, hrun, hv⟩ := h
  unfold Oper.wp
  rw [hrun, Oper.upon_value]
  refine hK v Z w θ ⟨hv, .refl Z w, fun _ _ => rfl, ?_, h3⟩
  unfold newM
  rw [h1, h2]
  exact hm

theorem wp_value {o : Oper} {v : Value} {w' : World} (h : (execOp a.eval o).run P w = .ok (.value v) w') {K : Act → World → Prop} {Q : Exit → Act → World → Prop} (hK : K (a.put o.dst v) w') : o.wp P a w K Q := by
  unfold Oper.wp
  rw [h, Oper.upon_value]
  exact hK

theorem wp_skip_op {o : Oper} {w' : World} (h : (execOp a.eval o).run P w = .ok .skip w') {K : Act → World → Prop} {Q : Exit → Act → World → Prop} (hK : K (a.put o.dst undef) w') : o.wp P a w K Q := by
  unfold Oper.wp
  rw [h, Oper.upon_skip]
  exact hK

theorem heap_alloc_eq (w : World) (o : Obj) (k : Nat) (h : k < w.heap.size) : (w.alloc o).heap[k]? = w.heap[k]? := by
  show (w.heap.push o)[k]? = _
  rw [Array.getElem?_push, if_neg (by omega)]

/-- A new block beside the kept ones. -/
theorem Mem.alloc {m : Nat → Option Blk} (hm : Mem X Z w θ m) (o : Obj) (Z' : Nat → Prop) (hz : ∀ b, Z b → Z' b) (hz' : ∀ b, Z' b → Z b ∨ b = w.heap.size) : Mem X Z' (w.alloc o) θ m ∧ Goes Z w Z' (w.alloc o) :=
  hm.stepW none hz (fun b hb => (hz' b hb).imp id (fun e => by omega)) (fun b hb => by
    have : (w.alloc o).heap.size = w.heap.size + 1 := World.size_alloc ..
    rcases hz' b hb with h | h
    · have := hm.zlt b h; omega
    · omega) rfl rfl rfl (by simp) (fun k hk _ => heap_alloc_eq w o k hk) (fun _ _ => rfl) (fun r h => by cases h)

/-- A new kept block, made from cells. -/
theorem ok_new {o : Oper} {d : Nat} {m : Nat → Option Blk} (hm : Mem X Z w θ m) (hd : d + 1 ≠ 0) {T : TypeId} {cs : List AV} {vs : List Value} (hcs : Cells Z w θ cs vs)
    (hrun : (execOp a.eval o).run P w = .ok (.value (pt w.heap.size)) (w.alloc (.cells (List.toArray vs) T))) : OpOK P X Z w θ m a o d ⟨[], [], .ptr ((64 * d + 64)) 0, [], some ((64 * d + 64), .cells cs), []⟩ := by
  intro K Q hK
  refine wp_value hrun (hK _ Z _ (fun k => if k = (64 * d + 64) then pt w.heap.size else θ k) ?_)
  obtain ⟨h1, g⟩ := hm.alloc (.cells (List.toArray vs) T) Z (fun _ h => h) (fun _ h => .inl h)
  have hnew : (w.alloc (.cells (List.toArray vs) T)).heap[w.heap.size]? = some (.cells (List.toArray vs) T (0, 0)) := heap_alloc_new w _
  refine ⟨.ptr _ _ _ _ (by simp), g, fun k hk => ?_, ?_, by simp⟩
  · have := hk _ _ rfl
    simp [this]
  · refine h1.add ((64 * d + 64)) w.heap.size T cs vs (by omega) hnew ?_ ?_ ?_ (hcs.step g)
    · intro hb; exact absurd (hm.zlt _ hb) (Nat.lt_irrefl _)
    · intro r' blk hblk ht
      rcases Option.isSome_iff_exists.1 (show (m r').isSome = true by rw [hblk]; rfl) with ⟨_, _⟩
      exact absurd (hm.lt hblk ht) (Nat.lt_irrefl _)
    · exact hm.frame.size

variable (hs : ∀ k, SRep Z w θ a.tmps (σ.s k) (a.tmps.getD k undef)) (hp : pathT a.tmps p)
include hs hp

theorem ok_alloc {o : Oper} {d : Nat} (hm : Mem X Z w θ σ.m) (hd : d + 1 ≠ 0) {e : TypeId} (ho : o.op = .alloc e) {z : List AV} (hz : zeroP P e = some z) : OpOK P X Z w θ σ.m a o d ⟨[], [], .ptr ((64 * d + 64)) 0, [], some ((64 * d + 64), .cells z), []⟩ := by
  obtain ⟨v, hv, vs, hvs, hcs, _⟩ := zeroP_spec (Z := Z) (w := w) (θ := θ) hz
  refine ok_new hm hd (T := e) hcs ?_
  simp [execOp, ho, Instr.alloc, hv, newVar, newRow, hvs]

theorem ok_box {o : Oper} {d n : Nat} (hm : Mem X Z w θ σ.m) (hd : d + 1 ≠ 0) {e : TypeId} {x : Operand} (ho : o.op = .box e x) {x' : A} (hx : compA x = some x') {r : Res} (he : bind1 (av σ p x') (boxR n d) = some r) : OpOK P X Z w θ σ.m a o d r := by
  obtain ⟨y, hy, h⟩ := bind1_some he
  have hr := av_rep hs hp hx hy
  unfold boxR at h
  split at h <;> try (cases h; done)
  rename_i cs hcs
  simp only [Option.some.injEq] at h; subst h
  obtain ⟨_, vs, hvs, hc⟩ := cellsOfAV_spec hcs hr
  refine ok_new hm hd (T := e) hc ?_
  simp [execOp, ho, Instr.box, newVar, newRow, hvs]

end
end Go.Ev
