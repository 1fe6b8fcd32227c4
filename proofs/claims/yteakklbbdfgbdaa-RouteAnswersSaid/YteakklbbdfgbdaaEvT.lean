/- A part of the proof: symbolic evaluation of the program's functions, proved sound against the model; no condition. -/
/-
  The framework 'Ev', part T: calls with an outcome of a family; a list of bytes taken for a string's.
  Conditions: none; a text of lemmas.
-/
import Derived.Test.YteakklbbdfgbdaaEvR
namespace Go.Ev
open Go Go.RowKit
set_option linter.unusedVariables false
set_option linter.unusedSectionVars false
set_option linter.unusedSimpArgs false

theorem kill0_clean {r : Nat} {x : AV} (h : x.clean0 = true) : kill0 r x = x := by
  cases x <;> first | rfl | simp [AV.clean0] at h
theorem killB_clean {r : Nat} {cs : List AV} (h : cs.all AV.clean0 = true) : killB r (.cells cs) = .cells cs := by
  simp only [killB]
  congr 1
  have : cs.map (kill0 r) = cs.map id := List.map_congr_left fun c hc => kill0_clean (List.all_eq_true.1 h c hc)
  rw [this, List.map_id]
def cleanBlk : Blk → Prop
  | .cells cs => cs.all AV.clean0 = true
  | .buf _ _ _ => True
  | .qb _ _ _ => True
  | .ms _ _ => True
  | .clo _ _ _ _ _ => True
  | .dead => True
theorem killB_cleanBlk {r : Nat} {b : Blk} (h : cleanBlk b) : killB r b = b := by
  cases b with
  | cells cs => exact killB_clean h
  | buf t z es => rfl
  | qb t z es => rfl
  | ms n ks => rfl
  | clo f z es i off => rfl
  | dead => rfl

theorem frs0_clean {x : AV} (h : wfX0 x = true) : ∀ e ∈ frs0 x, cleanBlk e.2 := by
  intro e he
  cases x <;> simp only [frs0] at he <;> try (cases he; done)
  · simp only [List.mem_singleton] at he; subst he; trivial
  · simp only [List.mem_singleton] at he; subst he; exact h
theorem frsL_clean : ∀ {xs : List AV}, xs.all wfX0 = true → ∀ e ∈ frsL xs, cleanBlk e.2
  | [], _, e, he => by cases he
  | x :: xs, h, e, he => by
    simp only [List.all_cons, Bool.and_eq_true] at h
    simp only [frsL, List.mem_append] at he
    exact he.elim (frs0_clean h.1 e) (frsL_clean h.2 e)
theorem frs1_clean {x : AV} (h : wfX1 x = true) : ∀ e ∈ frs1 x, cleanBlk e.2 := by
  cases x with
  | agg cs => exact frsL_clean (by simpa only [wfX1] using h)
  | _ => exact frs0_clean (by simpa only [wfX1] using h)
theorem frsV_clean : ∀ {xs : List AV}, xs.all wfX1 = true → ∀ e ∈ frsV xs, cleanBlk e.2
  | [], _, e, he => by cases he
  | x :: xs, h, e, he => by
    simp only [List.all_cons, Bool.and_eq_true] at h
    simp only [frsV, List.mem_append] at he
    exact he.elim (frs1_clean h.1 e) (frsV_clean h.2 e)
theorem frs2_clean {x : AV} (h : wfX2 x = true) : ∀ e ∈ frs2 x, cleanBlk e.2 := by
  cases x with
  | tup cs => exact frsV_clean (by simpa only [wfX2] using h)
  | _ => exact frs1_clean (by simpa only [wfX2] using h)

section
variable {X : Cx} {N : Nat} {G : Prop} {W : List Nat} {Z Z' : Nat → Prop} {w w' : World} {θ θ' : Nat → Value} {σ : St}

/-- One slot's block is let go, and written anew. -/
theorem Inv.killed {tm : Array Value} (inv : Inv X N G Z w θ W σ tm) (r : Nat) (ht : ∀ k, k ≠ r → θ' k = θ k) {m' : Nat → Option Blk} (hm : Mem X Z w θ' m') : Inv X N G Z w θ' W ⟨killS r σ.s, m'⟩ tm := by
  refine ⟨fun k => ?_, hm, ?_, ?_, inv.size⟩
  · exact (inv.slot k).kill (.refl Z w) r ht (fun _ _ _ => Iff.rfl)
  · intro k q y hk e he
    obtain ⟨y', hk'⟩ := kill3_gd hk
    obtain ⟨h1, c, h2⟩ := inv.path k q y' hk' e he
    exact ⟨h1, c, boolOf_kill3 h2⟩
  · rcases inv.nog with h | h
    · exact .inl h
    · right
      intro k q y hk
      obtain ⟨y', hk'⟩ := kill3_gd hk
      exact h k q y' hk'

theorem BRep.to {θR : Nat → Value} {j i : Nat} {b : Blk} (hb : BRep Z w θR j b) (hc : cleanBlk b) (h : θ' i = θR j) : BRep Z w θ' i b := by
  cases b with
  | dead => exact hb.elim
  | cells cs =>
    obtain ⟨b, T, vs, e1, e2, e3, e4⟩ := hb
    exact ⟨b, T, vs, by rw [h]; exact e1, e2, e3, e4.th_clean hc θ'⟩
  | buf t z es =>
    obtain ⟨e1, e2, xs, e3, e4, e5⟩ := hb
    exact ⟨e1, e2, xs, by rw [h]; exact e3, by rw [h]; exact e4, e5⟩
  | qb t z es =>
    obtain ⟨e1, e2, xs, e3, e4, e5⟩ := hb
    exact ⟨e1, e2, xs, by rw [h]; exact e3, by rw [h]; exact e4, e5⟩
  | ms n ks =>
    obtain ⟨b, E, clock, e1, e2, e3, e4⟩ := hb
    exact ⟨b, E, clock, by rw [h]; exact e1, e2, e3, e4⟩
  | clo f z es i off =>
    obtain ⟨v, e1, e2⟩ := hb
    exact ⟨v, by rw [h]; exact e1, e2⟩

/-- New blocks are kept. -/
theorem Inv.addF {tm : Array Value} (d : Nat) {θR : Nat → Value} {n : Nat} (hn : X.w0.heap.size ≤ n) : ∀ (l : List (Nat × Blk)) {θ : Nat → Value} {σ : St}, Inv X N G Z w θ W σ tm →
    (∀ e ∈ l, BRep Z w θR e.1 e.2 ∧ cleanBlk e.2 ∧ e.1 < 64) → (∀ e ∈ l, ∀ b, bk (θR e.1) = some b → n ≤ b ∧ ∀ r, (σ.m r).isSome = true → bk (θ r) ≠ some b) →
    (∀ e ∈ l, ∀ e' ∈ l, ∀ b, bk (θR e.1) = some b → bk (θR e'.1) = some b → e.1 = e'.1) → nodupN (l.map (·.1)) = true →
    ∃ θ', Inv X N G Z w θ' W (Ev.addF d l σ) tm ∧ (∀ e ∈ l, θ' (64 * d + 64 + e.1) = θR e.1) ∧ ∀ k, (∀ e ∈ l, k ≠ 64 * d + 64 + e.1) → θ' k = θ k
  | [], θ, σ, inv, _, _, _, _ => ⟨θ, inv, by simp, fun _ _ => rfl⟩
  | (j, b) :: l, θ, σ, inv, hB, hF, hD, hN => by
    have hb := hB (j, b) (by simp)
    have hid : 64 ≤ 64 * d + 64 + j := by omega
    have ht : ∀ k, k ≠ 64 * d + 64 + j → (fun k => if k = 64 * d + 64 + j then θR j else θ k) k = θ k := fun k hk => by simp [hk]
    have hm := inv.mem.put1 (64 * d + 64 + j) (θR j) b hid (by
      rw [killB_cleanBlk hb.2.1]
      exact hb.1.to hb.2.1 (by simp)) (by
      intro r' blk' _ hr' c hc
      exact (hF (j, b) (by simp) c hc).2 r' (by rw [hr']; rfl)) (by
      intro c hc
      have := (hF (j, b) (by simp) c hc).1
      omega)
    rw [killB_cleanBlk hb.2.1] at hm
    have inv1 := inv.killed (64 * d + 64 + j) ht hm
    simp only [List.map_cons, nodupN, Bool.and_eq_true, Bool.not_eq_true'] at hN
    have hnot : ∀ e ∈ l, e.1 ≠ j := by
      intro e he h
      have : (l.map (·.1)).contains j = true := by
        rw [List.contains_iff_mem]
        exact List.mem_map.2 ⟨e, he, h⟩
      rw [this] at hN; exact absurd hN.1 (by simp)
    obtain ⟨θ', i2, h1, h2⟩ := Inv.addF d hn l inv1 (fun e he => hB e (by simp [he])) (fun e he c hc => by
      refine ⟨(hF e (by simp [he]) c hc).1, fun r hr => ?_⟩
      simp only [updM] at hr
      by_cases e' : r = 64 * d + 64 + j
      · subst e'
        simp only [if_true]
        intro hc'
        exact hnot e he (hD e (by simp [he]) (j, b) (by simp) c hc hc')
      · simp only [e', if_false] at hr ⊢
        refine (hF e (by simp [he]) c hc).2 r ?_
        simp only [killM] at hr
        cases hmr : σ.m r with
        | none => rw [hmr] at hr; cases hr
        | some _ => rfl) (fun e he e' he' => hD e (by simp [he]) e' (by simp [he'])) hN.2
    refine ⟨θ', i2, ?_, ?_⟩
    · intro e he
      rcases List.mem_cons.1 he with rfl | he
      · rw [h2 _ (fun e he => by have := hnot e he; simp only; omega)]
        simp
      · exact h1 e he
    · intro k hk
      rw [h2 k (fun e he => hk e (by simp [he]))]
      exact ht k (hk (j, b) (by simp))

/-! ### The outcome's value -/
theorem unfr0_rep {d : Nat} {θR : Nat → Value} {x : AV} {v : Value} (hw : wfX0 x = true) (h : Rep Z w θR (told0 x) v) (ht : ∀ e ∈ frs0 x, θ' (64 * d + 64 + e.1) = θR e.1) : Rep Z w θ' (unfr0 d x) v ∧ (unfr0 d x).atom = true := by
  cases x <;> simp [wfX0] at hw
  case fr j t z es =>
    simp only [told0] at h
    cases h with
    | vw _ _ _ _ _ a n c hθ => exact ⟨.vw _ _ _ _ _ _ _ _ ((ht (j, .buf t z es) (by simp [frs0])).trans hθ), rfl⟩
  case fp j cs =>
    simp only [told0] at h
    cases h with
    | ptr _ _ _ b hθ => exact ⟨.ptr _ _ _ _ ((ht (j, .cells cs) (by simp [frs0])).trans hθ), rfl⟩
  all_goals exact ⟨h.th_clean0 rfl θ', rfl⟩
theorem unfrC_cells {d : Nat} {θR : Nat → Value} : ∀ {xs : List AV} {vs : List Value}, xs.all wfX0 = true → Cells Z w θR (xs.map told0) vs → (∀ e ∈ frsL xs, θ' (64 * d + 64 + e.1) = θR e.1) → Cells Z w θ' (xs.map (unfr0 d)) vs
  | [], vs, _, h, _ => by
    have := h.len
    cases vs with
    | nil => exact .nil _ _ _
    | cons _ _ => simp at this
  | x :: xs, vs, hw, h, ht => by
    cases vs with
    | nil => have := h.len; simp at this
    | cons u us =>
      simp only [List.all_cons, Bool.and_eq_true] at hw
      simp only [frsL, List.mem_append] at ht
      have hrest : Cells Z w θR (xs.map told0) us := by have := h.drop 1; simpa using this
      have h1 := unfr0_rep (d := d) hw.1 (h.rep 0 _ u (by simp) rfl) (fun e he => ht e (.inl he))
      exact Cells.append (Cells.one' h1.1 h1.2 (h.one u (by simp))) (unfrC_cells hw.2 hrest fun e he => ht e (.inr he))
theorem unfr1_rep {d : Nat} {θR : Nat → Value} {x : AV} {v : Value} (hw : wfX1 x = true) (h : Rep Z w θR (told1 x) v) (ht : ∀ e ∈ frs1 x, θ' (64 * d + 64 + e.1) = θR e.1) : Rep Z w θ' (unfr1 d x) v ∧ (unfr1 d x).lev1 = true := by
  have key : wfX0 x = true → Rep Z w θR (told0 x) v → (∀ e ∈ frs0 x, θ' (64 * d + 64 + e.1) = θR e.1) → Rep Z w θ' (unfr0 d x) v ∧ (unfr0 d x).lev1 = true := fun a b c => by
    obtain ⟨h1, h2⟩ := unfr0_rep (d := d) a b c
    refine ⟨h1, ?_⟩
    generalize unfr0 d x = y at h2
    cases y <;> first | rfl | simp [AV.atom] at h2
  cases x with
  | agg cs =>
    simp only [told1] at h
    obtain ⟨vs, rfl, hc⟩ := h.cells
    exact ⟨(unfrC_cells hw hc ht).agg, rfl⟩
  | _ => exact key hw h ht
theorem frsV_get {xs : List AV} {i : Nat} {x : AV} (h : xs[i]? = some x) : ∀ e ∈ frs1 x, e ∈ frsV xs := by
  induction xs generalizing i with
  | nil => simp at h
  | cons y ys ih =>
    intro e he
    simp only [frsV, List.mem_append]
    cases i with
    | zero => simp at h; subst h; exact .inl he
    | succ i => simp at h; exact .inr (ih h e he)
theorem unfr2_rep {d : Nat} {θR : Nat → Value} {x : AV} {v : Value} (hw : wfX2 x = true) (h : Rep Z w θR (told2 x) v) (ht : ∀ e ∈ frs2 x, θ' (64 * d + 64 + e.1) = θR e.1) : Rep Z w θ' (unfr2 d x) v := by
  cases x with
  | tup cs =>
    simp only [told2] at h
    simp only [wfX2, List.all_eq_true] at hw
    generalize hcs : cs.map told1 = cs' at h
    cases h with
    | tup _ _ vs hl ha h =>
      subst hcs
      have key : ∀ (i : Nat) (c : AV) (v : Value), cs[i]? = some c → vs[i]? = some v → Rep Z w θ' (unfr1 d c) v ∧ (unfr1 d c).lev1 = true := fun i c v hc hv =>
        unfr1_rep (hw c (List.mem_of_getElem? hc)) (h i (told1 c) v (by rw [List.getElem?_map, hc]; rfl) hv) (fun e he => ht e (frsV_get hc e he))
      refine .tup θ' _ vs (by simpa using hl) ?_ ?_
      · intro c hc
        obtain ⟨c', hc', rfl⟩ := List.mem_map.1 hc
        obtain ⟨i, hi⟩ := List.getElem?_of_mem hc'
        have hiv : i < vs.length := by rw [hl]; simpa using (List.getElem?_eq_some_iff.1 hi).1
        exact (key i c' _ hi (List.getElem?_eq_getElem hiv)).2
      · intro i c v hc hv
        rw [List.getElem?_map] at hc
        obtain ⟨c', hc', rfl⟩ := Option.map_eq_some_iff.1 hc
        exact (key i c' v hc' hv).1
  | _ => exact (unfr1_rep (by simpa only [wfX2] using hw) h (by simpa only [frs2] using ht)).1

/-- The state behind such a call. -/
theorem putX_inv {tm : Array Value} (inv : Inv X N G Z w' θ W σ tm) {d : Nat} (hdW : d ∉ W) (hdN : d < N) {R : AV} {v : Value} {θR : Nat → Value} (hfr : FrOK Z w w' θR (frs2 R)) (hw : wfX2 R = true) (hi : idsOK (frs2 R) = true) (hrep : Rep Z w' θR (told2 R) v)
    (hlt : ∀ r b, (σ.m r).isSome = true → bk (θ r) = some b → b < w.heap.size) (hX : X.w0.heap.size ≤ w.heap.size) : ∃ θ', Inv X N G Z w' θ' (d :: W) (putX d R σ) (tm.setIfInBounds d v) := by
  simp only [idsOK, Bool.and_eq_true] at hi
  obtain ⟨θ', i1, h1, _⟩ := inv.addF (θR := θR) d hX (frs2 R) (fun e he => ⟨hfr.rep e.1 e.2 he, frs2_clean hw e he, by
    have := List.all_eq_true.1 hi.2 e.1 (List.mem_map.2 ⟨e, he, rfl⟩)
    simpa using this⟩) (fun e he b hb => ⟨hfr.new e.1 e.2 he b hb, fun r hr hrb => by
      have h1 := hfr.new e.1 e.2 he b hb
      have h2 := hlt r b hr hrb
      omega⟩) (fun e he e' he' b hb hb' => hfr.dis e.1 e.2 e'.1 e'.2 he he' b hb hb') hi.1
  have hv := unfr2_rep (d := d) hw hrep h1
  have := Inv.put (a := ⟨tm, []⟩) i1 hdW hdN (r := ⟨[], [], unfr2 d R, [], none, []⟩) (v := v) ⟨hv, .refl _ _, fun _ _ => rfl, i1.mem, by simp⟩
  exact ⟨θ', this⟩

/-! ### What was lent -/
theorem flatX0_told {x : AV} {θR : Nat → Value} {v : Value} (hx : flatX0 x = true) (h : Rep Z w θR (told0 x) v) : Rep Z' w' θR (told0 x) v := by
  cases x <;> simp [flatX0] at hx
  case fr j t z es =>
    simp only [told0] at h ⊢
    cases h with
    | vw _ _ _ _ _ a n c hθ => exact .vw _ _ _ _ _ _ _ _ hθ
  case fp j cs =>
    simp only [told0] at h ⊢
    cases h with
    | ptr _ _ _ b hθ => exact .ptr _ _ _ _ hθ
  all_goals exact Rep.flat0 rfl h
theorem flatX1_told {x : AV} {θR : Nat → Value} {v : Value} (hx : flatX1 x = true) (h : Rep Z w θR (told1 x) v) : Rep Z' w' θR (told1 x) v := by
  cases x with
  | agg cs =>
    simp only [told1] at h ⊢
    simp only [flatX1, List.all_eq_true] at hx
    obtain ⟨vs, rfl, hc⟩ := h.cells
    refine Cells.agg ⟨hc.len, hc.at1, hc.one, fun i c v hi hv => ?_⟩
    have := hc.rep i c v hi hv
    rw [List.getElem?_map] at hi
    obtain ⟨c', hc', rfl⟩ := Option.map_eq_some_iff.1 hi
    exact flatX0_told (hx c' (List.mem_of_getElem? hc')) this
  | _ => exact flatX0_told (by simpa only [flatX1] using hx) h
theorem flatX2_told {x : AV} {θR : Nat → Value} {v : Value} (hx : flatX2 x = true) (h : Rep Z w θR (told2 x) v) : Rep Z' w' θR (told2 x) v := by
  cases x with
  | tup cs =>
    simp only [told2] at h ⊢
    simp only [flatX2, List.all_eq_true] at hx
    generalize hcs : cs.map told1 = cs' at h ⊢
    cases h with
    | tup _ _ vs hl ha h =>
      refine .tup θR _ vs hl ha fun i c v hi hv => ?_
      have := h i c v hi hv
      subst hcs
      rw [List.getElem?_map] at hi
      obtain ⟨c', hc', rfl⟩ := Option.map_eq_some_iff.1 hi
      exact flatX1_told (hx c' (List.mem_of_getElem? hc')) this
  | _ => exact flatX1_told (by simpa only [flatX2] using hx) h

def flatBlk : Blk → Prop
  | .cells cs => cs.all AV.flat0 = true
  | .buf _ _ es => FlatE es
  | .qb _ _ es => FlatE es
  | .ms _ _ => True
  | .clo _ _ _ _ _ => False
  | .dead => True
theorem frs0_flat {x : AV} (h : flatX0 x = true) : ∀ e ∈ frs0 x, ∀ cs, e.2 = .cells cs → cs.all AV.flat0 = true := by
  intro e he cs hcs
  cases x <;> simp only [frs0] at he <;> try (cases he; done)
  · simp only [List.mem_singleton] at he; subst he; cases hcs
  · simp only [List.mem_singleton] at he; subst he; cases hcs; exact h
theorem frsL_flat : ∀ {xs : List AV}, xs.all flatX0 = true → ∀ e ∈ frsL xs, ∀ cs, e.2 = .cells cs → cs.all AV.flat0 = true
  | [], _, e, he => by cases he
  | x :: xs, h, e, he => by
    simp only [List.all_cons, Bool.and_eq_true] at h
    simp only [frsL, List.mem_append] at he
    exact he.elim (frs0_flat h.1 e) (frsL_flat h.2 e)
theorem frs1_flat {x : AV} (h : flatX1 x = true) : ∀ e ∈ frs1 x, ∀ cs, e.2 = .cells cs → cs.all AV.flat0 = true := by
  cases x with
  | agg cs => exact frsL_flat (by simpa only [flatX1] using h)
  | _ => exact frs0_flat (by simpa only [flatX1] using h)
theorem frsV_flat : ∀ {xs : List AV}, xs.all flatX1 = true → ∀ e ∈ frsV xs, ∀ cs, e.2 = .cells cs → cs.all AV.flat0 = true
  | [], _, e, he => by cases he
  | x :: xs, h, e, he => by
    simp only [List.all_cons, Bool.and_eq_true] at h
    simp only [frsV, List.mem_append] at he
    exact he.elim (frs1_flat h.1 e) (frsV_flat h.2 e)
theorem frs2_flat {x : AV} (h : flatX2 x = true) : ∀ e ∈ frs2 x, ∀ cs, e.2 = .cells cs → cs.all AV.flat0 = true := by
  cases x with
  | tup cs => exact frsV_flat (by simpa only [flatX2] using h)
  | _ => exact frs1_flat (by simpa only [flatX2] using h)
theorem flatL_mem : ∀ {l : List (Nat × Blk)}, flatL l → ∀ e ∈ l, ∀ t z es, e.2 = .buf t z es → FlatE es
  | [], _, e, he => by cases he
  | (j, .buf t z es) :: l, h, e, he => by
    simp only [flatL] at h
    rcases List.mem_cons.1 he with rfl | he
    · intro t' z' es' h'; cases h'; exact h.1
    · exact flatL_mem h.2 e he
  | (j, .cells cs) :: l, h, e, he => by
    simp only [flatL] at h
    rcases List.mem_cons.1 he with rfl | he
    · intro t' z' es' h'; cases h'
    · exact flatL_mem h e he
  | (j, .qb _ _ _) :: l, h, e, he => h.elim
  | (j, .clo _ _ _ _ _) :: l, h, e, he => h.elim
  | (j, .ms _ _) :: l, h, e, he => by
    simp only [flatL] at h
    rcases List.mem_cons.1 he with rfl | he
    · intro t' z' es' h'; cases h'
    · exact flatL_mem h e he
  | (j, .dead) :: l, h, e, he => by
    simp only [flatL] at h
    rcases List.mem_cons.1 he with rfl | he
    · intro t' z' es' h'; cases h'
    · exact flatL_mem h e he
theorem flatL_no : ∀ {l : List (Nat × Blk)}, flatL l → ∀ e ∈ l, (∀ t z es, e.2 ≠ .qb t z es) ∧ ∀ f z es i o, e.2 ≠ .clo f z es i o
  | [], _, e, he => by cases he
  | (j, .qb _ _ _) :: l, h, e, he => h.elim
  | (j, .clo _ _ _ _ _) :: l, h, e, he => h.elim
  | (j, .buf t z es) :: l, h, e, he => by
    rcases List.mem_cons.1 he with rfl | he
    · exact ⟨by intros; simp, by intros; simp⟩
    · exact flatL_no h.2 e he
  | (j, .cells cs) :: l, h, e, he => by
    rcases List.mem_cons.1 he with rfl | he
    · exact ⟨by intros; simp, by intros; simp⟩
    · exact flatL_no (by simpa only [flatL] using h) e he
  | (j, .ms _ _) :: l, h, e, he => by
    rcases List.mem_cons.1 he with rfl | he
    · exact ⟨by intros; simp, by intros; simp⟩
    · exact flatL_no (by simpa only [flatL] using h) e he
  | (j, .dead) :: l, h, e, he => by
    rcases List.mem_cons.1 he with rfl | he
    · exact ⟨by intros; simp, by intros; simp⟩
    · exact flatL_no (by simpa only [flatL] using h) e he
/-- Blocks handed back, where fewer are frozen. -/
theorem FrOK.less {w0 : World} {θR : Nat → Value} {l : List (Nat × Blk)} (h : FrOK Z w0 w' θR l) (hz : ∀ b, Z' b → Z b) (hc : (∀ b, Z b → Z' b) ∨ (flatL l ∧ ∀ e ∈ l, ∀ cs, e.2 = .cells cs → cs.all AV.flat0 = true)) : FrOK Z' w0 w' θR l := by
  refine ⟨fun j blk hj => ?_, h.new, h.dis⟩
  have hb := h.rep j blk hj
  cases blk with
  | dead => exact hb.elim
  | ms n ks =>
    obtain ⟨b, E, clock, e1, e2, e3, e4⟩ := hb
    exact ⟨b, E, clock, e1, e2, fun h => e3 (hz b h), e4⟩
  | clo f z es i off =>
    rcases hc with hc | hc
    · obtain ⟨v, e1, e2⟩ := hb
      exact ⟨v, e1, e2.step (Goes.wider w' hc)⟩
    · exact absurd rfl ((flatL_no hc.1 _ hj).2 _ _ _ _ _)
  | qb t z es =>
    rcases hc with hc | hc
    · obtain ⟨e1, e2, xs, e3, e4, e5⟩ := hb
      exact ⟨e1, e2, xs, e3, fun b hb h => e4 b hb (hz b h), e5.step (Goes.wider w' hc)⟩
    · exact absurd rfl ((flatL_no hc.1 _ hj).1 _ _ _)
  | cells cs =>
    obtain ⟨b, T, vs, e1, e2, e3, e4⟩ := hb
    refine ⟨b, T, vs, e1, e2, fun h => e3 (hz b h), ?_⟩
    rcases hc with hc | hc
    · exact e4.step (Goes.wider w' hc)
    · exact e4.flat (hc.2 _ hj cs rfl)
  | buf t z es =>
    obtain ⟨e1, e2, xs, e3, e4, e5⟩ := hb
    refine ⟨e1, e2, xs, e3, fun b hb h => e4 b hb (hz b h), ?_⟩
    rcases hc with hc | hc
    · exact e5.step (Goes.wider w' hc)
    · refine e5.flat (List.all_eq_true.2 fun c hcc => ?_)
      obtain ⟨e, he, hce⟩ := List.mem_flatten.1 hcc
      exact List.all_eq_true.1 (flatL_mem hc.1 _ hj t z es rfl e he) c hce
end

/-- What is said of lists leans on the cells alone. -/
theorem Rep.same {Z : Nat → Prop} {w w' : World} (g : ∀ b o, Z b → w'.cell? ⟨b, o, none⟩ = w.cell? ⟨b, o, none⟩) {θ : Nat → Value} {x : AV} {v : Value} (h : Rep Z w θ x v) : Rep Z w' θ x v := by
  induction h with
  | int θ k n => exact .int θ k n
  | bool θ b => exact .bool θ b
  | str θ s => exact .str θ s
  | agg θ cs vs hl ha h1 h ih => exact .agg θ cs vs hl ha h1 ih
  | tup θ cs vs hl ha h ih => exact .tup θ cs vs hl ha ih
  | lst θ z es a cap f hc hm hz hat hmem h1 h ih =>
    refine .lst θ z es a cap f hc hm hz hat (fun hne => ?_) h1 ih
    obtain ⟨b, o, ha, hb, hcell⟩ := hmem hne
    exact ⟨b, o, ha, hb, fun i j c hi => (g _ _ hb).trans (hcell i j c hi)⟩
  | ep θ z es i off b o f hi hz hat hb hmem h1 h ih =>
    exact .ep θ z es i off b o f hi hz hat hb (fun i j c hi => (g _ _ hb).trans (hmem i j c hi)) h1 ih
  | ptr θ r off b h => exact .ptr θ r off b h
  | vw θ r x y z a n c h => exact .vw θ r x y z a n c h
  | ap θ r x y z v h h0 h1 => exact .ap θ r x y z v h h0 h1
  | bp θ r sz i off b o n c h => exact .bp θ r sz i off b o n c h
  | sv θ r sz lo hi a n c a' c' h h1 h2 h3 h4 h5 => exact .sv θ r sz lo hi a n c a' c' h h1 h2 h3 h4 h5
  | nb θ e b h => exact .nb θ e b h
  | fn θ f => exact .fn θ f
  | nil θ => exact .nil θ
  | junk θ v => exact .junk θ v

/-- The kept blocks, where one that is kept no more is taken for a list. -/
theorem Mem.frzN {X : Cx} {Z : Nat → Prop} {w : World} {θ : Nat → Value} {m : Nat → Option Blk} (hm : Mem X Z w θ m) {r : Nat} {z : List AV} {es : List (List AV)} {g : Nat} (hg : g < w.heap.size) (hX : X.w0.heap.size ≤ g) (hd : ∀ k, (m k).isSome = true → bk (θ k) ≠ some g)
    (hL : BufL (fun b => Z b ∨ b = g) w θ r z es) : Mem X (fun b => Z b ∨ b = g) w θ (frzM r z es m) := by
  have some_of : ∀ k, (frzM r z es m k).isSome = true → (m k).isSome = true := by
    intro k hk
    simp only [frzM] at hk
    cases hmk : m k with
    | none => rw [hmk] at hk; cases hk
    | some _ => rfl
  refine ⟨?_, ?_, ?_, ?_, hm.frame, fun b hb => .inl (hm.zin b hb), ?_, hm.fix⟩
  · intro k blk hk
    have hs := some_of k (by rw [hk]; rfl)
    simp only [frzM] at hk
    cases hmk : m k with
    | none => rw [hmk] at hk; cases hk
    | some b0 =>
      rw [hmk] at hk
      simp only [Option.some.injEq] at hk; subst hk
      have hb := hm.brep k b0 hmk
      cases b0 with
      | dead => exact hb.elim
      | cells cs =>
        obtain ⟨b, T', vs, h1, h2, h3, h4⟩ := hb
        refine ⟨b, T', vs, h1, h2, ?_, (h4.step (Goes.wider w (fun _ h => .inl h))).frz hL⟩
        rintro (h | h)
        · exact h3 h
        · subst h; exact hd k hs (by rw [h1]; rfl)
      | clo f z' es' i off =>
        obtain ⟨v, h1, h2⟩ := hb
        exact ⟨v, h1, h2.step (Goes.wider w (fun _ h => .inl h))⟩
      | ms n ks =>
        obtain ⟨b, E, clock, h1, h2, h3, h4⟩ := hb
        refine ⟨b, E, clock, h1, h2, ?_, h4⟩
        rintro (h | h)
        · exact h3 h
        · subst h; exact hd k hs (by rw [h1]; rfl)
      | qb T' z' es' =>
        obtain ⟨h0, h1, xs, h2, h3, h4⟩ := hb
        refine ⟨h0, h1, xs, h2, ?_, h4.step (Goes.wider w (fun _ h => .inl h))⟩
        rintro b hb (h | h)
        · exact h3 b hb h
        · subst h; exact hd k hs hb
      | buf T' z' es' =>
        obtain ⟨h0, h1, xs, h2, h3, h4⟩ := hb
        refine ⟨h0, h1, xs, h2, ?_, h4.step (Goes.wider w (fun _ h => .inl h))⟩
        rintro b hb (h | h)
        · exact h3 b hb h
        · subst h; exact hd k hs hb
  · intro k k' b h1 h2 h3 h4
    exact hm.disj k k' b (some_of k h1) (some_of k' h2) h3 h4
  · intro k b h1 h2; exact hm.own k b (some_of k h1) h2
  · rintro b (h | h)
    · exact hm.zlt b h
    · subst h; exact hg
  · rintro b (h | h)
    · exact hm.znew b h
    · subst h; exact .inr hX

section
variable {P : Program} {X : Cx} {N : Nat} {G : Prop} {W : List Nat} {Z : Nat → Prop} {w : World} {θ : Nat → Value} {a : Act} {σ : St}

theorem backX_cases {bs : List Nat} {f : Bool} {fl : Prop} {σ : St} {K : St → Prop} (h : backX bs f fl σ K) : (bs = [] ∧ K σ) ∨ (f = true ∧ fl ∧ K σ) ∨ ((∀ r ∈ bs, 64 ≤ r) ∧ K (frzL bs σ)) := by
  unfold backX at h
  split at h
  · exact .inl ⟨rfl, h⟩
  · split at h
    · exact .inr (.inl ⟨rfl, h⟩)
    · exact .inr (.inr ⟨fun r hr => by simpa using List.all_eq_true.1 h.1 r hr, h.2⟩)

theorem Inv.stepped {Z' : Nat → Prop} {w' : World} {m' : Nat → Option Blk} {tm : Array Value} (inv : Inv X N G Z w θ W σ tm) (g : Goes Z w Z' w') (hm : Mem X Z' w' θ m') : Inv X N G Z' w' θ W ⟨σ.s, m'⟩ tm :=
  ⟨fun k => (inv.slot k).goes g (fun _ => rfl) (fun _ _ _ => Iff.rfl), hm, inv.path, inv.nog, inv.size⟩

/-- A call with an outcome of a family. -/
theorem evX_sound {o : Oper} {f d : Nat} {st : Bool} {ι : Type} {fn : List AV → List AV → Option (Prop × (ι → Prop × AV × List AV))} (hS : Sound P f (.ext st ι fn)) (inv : Inv X N G Z w θ W σ a.tmps) (hod : o.dst = some d) (hdW : d ∉ W) (hdN : d < N)
    {args : Array Value} (hrun : (execOp a.eval o).run P w = .ok (.enter f args) w) {vs : List AV} (hreps : Reps Z w θ vs args.toList) {K : St → Prop} (hev : evX st ι fn d vs σ K)
    {K' : Act → World → Prop} {Q : Exit → Act → World → Prop} (hK : ∀ v Z' w' θ' σ', K σ' → Inv X N G Z' w' θ' (d :: W) σ' (a.tmps.setIfInBounds d v) → K' (a.put (some d) v) w') : o.wp P a w K' Q := by
  have hm := inv.mem
  have hXw := hm.frame.size
  unfold Oper.wp
  rw [hrun, Oper.upon_enter]
  rw [hod]
  cases st with
  | false =>
    simp only [evX] at hev
    cases hl : lends σ.m vs with
    | none => rw [hl] at hev; exact hev.elim
    | some q =>
      obtain ⟨ys, bs⟩ := q
      rw [hl] at hev
      simp only [evXA] at hev
      cases hfn : fn [] ys with
      | none => rw [hfn] at hev; exact hev.elim
      | some q =>
        obtain ⟨q, g⟩ := q
        rw [hfn] at hev
        obtain ⟨hq, hev⟩ := hev
        have hlent := lends_lent hl
        have hargs : args = args.toList.toArray := by simp
        rw [hargs]
        refine (hS (lentZ θ bs Z) w ys args.toList q g (lentZ_lt hm hlent) (lends_reps hm (fun _ h => .inl h) hreps hl (fun r hr b hb => .inr ⟨r, hr, hb⟩)) hfn hq).mono ?_
        rintro e w' ⟨i, v, Z2, θR, hpost, rfl, hfr, hgr, hrep, hfo⟩
        obtain ⟨hwf, hbk⟩ := hev i hpost
        simp only [Bool.and_eq_true] at hwf
        have hold : ∀ (r b : Nat), (σ.m r).isSome = true → bk (θ r) = some b → b < w.heap.size := fun r b hr hb => by
          obtain ⟨blk, hblk⟩ := Option.isSome_iff_exists.1 hr
          exact hm.lt hblk hb
        have borrow : (bs = [] ∨ (flatX2 (g i).2.1 = true ∧ flatL (frs2 (g i).2.1))) → K (putX d (g i).2.1 σ) → K' (a.put (some d) v) w' := by
          intro hc hk
          obtain ⟨hz1, hz2⟩ := back_rep hgr
          have hst := hm.stepW (w' := w') (m' := σ.m) (Z' := fun b => Z2 b ∧ (Z b ∨ w.heap.size ≤ b)) none hz1 (fun b h => h.2) (fun b h => hgr.lt b h.1) hfr.os hfr.tape hfr.output hfr.size (fun k hk _ => hfr.block k hk (by simp)) (fun _ _ => rfl) (fun r h => by cases h)
          have inv1 := inv.stepped hst.2 hst.1
          have hfo' : FrOK (fun b => Z2 b ∧ (Z b ∨ w.heap.size ≤ b)) w w' θR (frs2 (g i).2.1) := hfo.less (fun b h => h.1) (hc.imp (fun e => hz2 e) fun h => ⟨h.2, frs2_flat h.1⟩)
          have hrep' : Rep (fun b => Z2 b ∧ (Z b ∨ w.heap.size ≤ b)) w' θR (told2 (g i).2.1) v := by
            rcases hc with e | h
            · exact hrep.step (Goes.wider w' (hz2 e))
            · exact flatX2_told h.1 hrep
          obtain ⟨θ', i2⟩ := putX_inv inv1 hdW hdN hfo' hwf.1 hwf.2 hrep' hold hXw
          exact hK v _ w' θ' _ hk i2
        rcases backX_cases hbk with ⟨e, hk⟩ | ⟨e, hfl, hk⟩ | ⟨h64, hk⟩
        · exact borrow (.inl e) hk
        · exact borrow (.inr ⟨e, hfl⟩) hk
        · have invf := inv.frzL bs h64 (fun r hr => .inl (hlent r hr))
          have hmf := invf.mem
          have hst := hmf.stepW (w' := w') (m' := (frzL bs σ).m) (Z' := Z2) none hgr.sub hgr.new hgr.lt hfr.os hfr.tape hfr.output hfr.size (fun k hk _ => hfr.block k hk (by simp)) (fun _ _ => rfl) (fun r h => by cases h)
          have inv1 := invf.stepped hst.2 hst.1
          obtain ⟨θ', i2⟩ := putX_inv inv1 hdW hdN hfo hwf.1 hwf.2 hrep (fun r b hr hb => by
            obtain ⟨blk, hblk⟩ := Option.isSome_iff_exists.1 hr
            exact hmf.lt hblk hb) hXw
          exact hK v _ w' θ' _ hk i2
  | true =>
    simp only [evX] at hev
    split at hev <;> try (exact hev.elim)
    rename_i r0 zs
    unfold evXC at hev
    split at hev <;> try (exact hev.elim)
    rename_i cs hmr
    cases hl : lends σ.m zs with
    | none => rw [hl] at hev; exact hev.elim
    | some q =>
      obtain ⟨ys, bs⟩ := q
      rw [hl] at hev
      simp only [evXB] at hev
      obtain ⟨hcc, hev⟩ := hev
      cases hfn : fn cs ys with
      | none => rw [hfn] at hev; exact hev.elim
      | some q =>
        obtain ⟨q, g⟩ := q
        rw [hfn] at hev
        obtain ⟨hq, hev⟩ := hev
        have hlent := lends_lent hl
        obtain ⟨b, T, us, hθ, hheap, hnZ, hcells⟩ := hm.brep r0 _ hmr
        have hnl := lentZ_not hm hlent hmr (by rw [hθ]; rfl) hnZ
        have hr0 : r0 ∉ bs := fun h => by
          obtain ⟨T', z', es', he⟩ := hlent r0 h
          rw [hmr] at he; cases he
        generalize hevs : args.toList = evs at hreps
        cases evs with
        | nil => have := hreps.len; simp at this
        | cons v0 evs =>
          have h0 := hreps.rep 0 _ v0 rfl rfl
          have hrest : Reps Z w θ zs evs := ⟨by have := hreps.len; simpa using this, fun i c w' h1 h2 => hreps.rep (i + 1) c w' (by simpa using h1) (by simpa using h2)⟩
          cases h0 with
          | ptr _ _ _ b' hθ' =>
            rw [hθ] at hθ'; simp at hθ'; subst hθ'
            have hargs : args = (pt b :: evs).toArray := by
              apply Array.ext'; simp [hevs]
            rw [hargs]
            refine (hS (lentZ θ bs Z) w b T cs us ys evs q g (lentZ_lt hm hlent) hheap hnl ((hcells.step (Goes.wider w (fun _ h => .inl h))).th_clean hcc th0) (lends_reps hm (fun _ h => .inl h) hrest hl (fun r hr b hb => .inr ⟨r, hr, hb⟩)) hfn hq).mono ?_
            rintro e w' ⟨i, v, Z2, θR, T', us', hpost, rfl, hfr, hgr, hheap', hcells', hrep, hfo⟩
            obtain ⟨hwf, hbk⟩ := hev i hpost
            simp only [Bool.and_eq_true] at hwf
            have hnZ' : ¬ Z2 b := by
              intro hb'
              rcases hgr.new b hb' with h | h
              · exact hnl h
              · have := lt_of_get hheap; omega
            have hblocks : ∀ k, k < w.heap.size → (∀ r, some r0 = some r → bk (θ r) ≠ some k) → w'.heap[k]? = w.heap[k]? := fun k hk hne => hfr.block k hk (by
              intro e; simp only [Option.some.injEq] at e; subst e; exact hne r0 rfl (by rw [hθ]; rfl))
            have borrow : (bs = [] ∨ ((flatX2 (g i).2.1 && (g i).2.2.all AV.flat0) = true ∧ flatL (frs2 (g i).2.1))) → K (putX d (g i).2.1 ⟨σ.s, updM σ.m r0 (some (.cells (g i).2.2))⟩) → K' (a.put (some d) v) w' := by
              intro hc hk
              obtain ⟨hz1, hz2⟩ := back_rep hgr
              have hcs'' : Cells (fun b => Z2 b ∧ (Z b ∨ w.heap.size ≤ b)) w' θ (g i).2.2 us' := by
                rcases hc with e | h
                · exact (hcells'.step (Goes.wider w' (hz2 e))).of_th0 θ
                · simp only [Bool.and_eq_true] at h
                  exact hcells'.flat h.1.2
              have hst := hm.stepW (w' := w') (m' := updM σ.m r0 (some (.cells (g i).2.2))) (Z' := fun b => Z2 b ∧ (Z b ∨ w.heap.size ≤ b)) (some r0) hz1 (fun b h => h.2) (fun b h => hgr.lt b h.1) hfr.os hfr.tape hfr.output hfr.size hblocks (fun r' hr' => by
                have : r' ≠ r0 := fun e => hr' (by rw [e])
                simp [updM, this]) (fun r' hr' => by
                simp only [Option.some.injEq] at hr'; subst hr'
                refine ⟨by simp [hmr], fun blk hblk => ?_⟩
                simp [updM] at hblk
                subst hblk
                exact ⟨b, T', us', hθ, hheap', fun h => hnZ' h.1, hcs''⟩)
              have inv1 := inv.stepped hst.2 hst.1
              have hfo' : FrOK (fun b => Z2 b ∧ (Z b ∨ w.heap.size ≤ b)) w w' θR (frs2 (g i).2.1) := hfo.less (fun b h => h.1) (hc.imp (fun e => hz2 e) fun h => by
                simp only [Bool.and_eq_true] at h
                exact ⟨h.2, frs2_flat h.1.1⟩)
              have hrep' : Rep (fun b => Z2 b ∧ (Z b ∨ w.heap.size ≤ b)) w' θR (told2 (g i).2.1) v := by
                rcases hc with e | h
                · exact hrep.step (Goes.wider w' (hz2 e))
                · simp only [Bool.and_eq_true] at h
                  exact flatX2_told h.1.1 hrep
              obtain ⟨θ', i2⟩ := putX_inv inv1 hdW hdN hfo' hwf.1 hwf.2.1 hrep' (fun r b hr hb => by
                simp only [updM] at hr
                split at hr
                · rename_i e; subst e; exact hm.lt hmr hb
                · obtain ⟨blk, hblk⟩ := Option.isSome_iff_exists.1 hr
                  exact hm.lt hblk hb) hXw
              exact hK v _ w' θ' _ hk i2
            rcases backX_cases hbk with ⟨e, hk⟩ | ⟨e, hfl, hk⟩ | ⟨h64, hk⟩
            · exact borrow (.inl e) hk
            · exact borrow (.inr ⟨e, hfl⟩) hk
            · have invf := inv.frzL bs h64 (fun r hr => .inl (hlent r hr))
              have hmf := invf.mem
              have hcell : ∀ (bs : List Nat) (σ : St) (cs : List AV), r0 ∉ bs → σ.m r0 = some (.cells cs) → ∃ cs', (frzL bs σ).m r0 = some (.cells cs') := by
                intro bs
                induction bs with
                | nil => intro σ cs _ h; exact ⟨cs, h⟩
                | cons k ks ih =>
                  intro σ cs hn h
                  simp only [List.mem_cons, not_or] at hn
                  obtain ⟨cs', h'⟩ := frzS_c (r := k) hn.1 h
                  exact ih _ cs' hn.2 h'
              obtain ⟨csf, hmrf⟩ := hcell bs σ cs hr0 hmr
              have hst := hmf.stepW (w' := w') (m' := updM (frzL bs σ).m r0 (some (.cells (g i).2.2))) (Z' := Z2) (some r0) hgr.sub hgr.new hgr.lt hfr.os hfr.tape hfr.output hfr.size hblocks (fun r' hr' => by
                have : r' ≠ r0 := fun e => hr' (by rw [e])
                simp [updM, this]) (fun r' hr' => by
                simp only [Option.some.injEq] at hr'; subst hr'
                refine ⟨by simp [hmrf], fun blk hblk => ?_⟩
                simp [updM] at hblk
                subst hblk
                exact ⟨b, T', us', hθ, hheap', hnZ', hcells'.of_th0 θ⟩)
              have inv1 := invf.stepped hst.2 hst.1
              obtain ⟨θ', i2⟩ := putX_inv inv1 hdW hdN hfo hwf.1 hwf.2.1 hrep (fun r b hr hb => by
                simp only [updM] at hr
                split at hr
                · rename_i e; subst e; exact hmf.lt hmrf hb
                · obtain ⟨blk, hblk⟩ := Option.isSome_iff_exists.1 hr
                  exact hmf.lt hblk hb) hXw
              exact hK v _ w' θ' _ hk i2

/-- A list of bytes, taken for a string's. -/
theorem mkS_sound {o : Oper} {d : Nat} {t e : TypeId} {x : Operand} (ho : o.op = .convert t t x) (hu : P.underlying t = some (.slice e)) (he : P.underlying e = some (.int .u8)) (inv : Inv X N G Z w θ W σ a.tmps) (hod : o.dst = some d) (hdW : d ∉ W) (hdN : d < N)
    {x' : A} (hx : compA x = some x') {K : St → Prop} (hev : mkS1 d σ K (ar σ x')) {K' : Act → World → Prop} {Q : Exit → Act → World → Prop} (hK : ∀ v Z' w' θ' σ', K σ' → Inv X N G Z' w' θ' (d :: W) σ' (a.tmps.setIfInBounds d v) → K' (a.put (some d) v) w') : o.wp P a w K' Q := by
  unfold mkS1 at hev
  split at hev <;> try (exact hev.elim)
  rename_i k v1 v2 v3 hax
  unfold mkS2 at hev
  split at hev <;> try (exact hev.elim)
  rename_i T z es hmk
  split at hev <;> try (exact hev.elim)
  rename_i h64
  have h64 : 64 ≤ k := by simpa using h64
  obtain ⟨hne, hk⟩ := hev
  have hm := inv.mem
  have hr := av_rep (σ := σ) (p := []) inv.slot (by intro q hq; cases hq) hx (y := .vw k v1 v2 v3) (by simp only [av, hax, gv])
  obtain ⟨hz0, hrows, xs, hown, hnz, hcs⟩ := hm.brep k _ hmk
  generalize hv : a.eval x = v at hr
  cases hr with
  | vw _ _ _ _ _ a' n' c' hθ =>
    have hown0 := hown
    rw [hθ] at hown
    rcases hown.2 with ⟨_, h0⟩ | ⟨g, cap, cur, hvv, _, hheap, hnc, hcm, hcsz, htake⟩
    · exact absurd (List.eq_nil_of_length_eq_zero h0) hne
    · cases hvv
      have hg : g < w.heap.size := lt_of_get hheap
      have hrun : (execOp a.eval o).run P w = .ok (.value (.slice (some ⟨g, 0, none⟩) es.length c')) (w.freeze ⟨g, cur.size, none⟩ 1) := by
        have hsh : w.shape? g = some (T, cur.size) := by unfold World.shape?; rw [hheap]
        simp [execOp, ho, hv, convert, run_underlying hu, run_underlying he, markStringish, hsh]
      generalize hw' : w.freeze ⟨g, cur.size, none⟩ 1 = w' at hrun
      have hheap' : w'.heap = w.heap.modify g fun
          | .cells c elem (lo, hi) => .cells c elem (if lo == hi then (cur.size, cur.size + 1) else (min lo cur.size, max hi (cur.size + 1)))
          | o => o := by
        subst hw'; unfold World.freeze; rw [if_neg (by decide)]; rfl
      have hos : w'.os = w.os := by subst hw'; unfold World.freeze; rw [if_neg (by decide)]
      have htp : w'.tape = w.tape := by subst hw'; unfold World.freeze; rw [if_neg (by decide)]
      have hout : w'.output = w.output := by subst hw'; unfold World.freeze; rw [if_neg (by decide)]
      have hsize : w'.heap.size = w.heap.size := by rw [hheap']; simp
      have hoth : ∀ b, b ≠ g → w'.heap[b]? = w.heap[b]? := fun b hb => by
        rw [hheap', Array.getElem?_modify, if_neg (by omega)]
      have hcell : ∀ b o', w'.cell? ⟨b, o', none⟩ = w.cell? ⟨b, o', none⟩ := fun b o' => by
        by_cases hb : b = g
        · subst hb
          unfold World.cell?
          simp only [hheap', Array.getElem?_modify, if_true, hheap]
          rfl
        · exact World.cell?_of_block (w := w) (a := ⟨b, o', none⟩) (hoth b hb)
      have hbk : bk (θ k) = some g := by rw [hθ]; rfl
      obtain ⟨hm1, hg1⟩ := hm.stepW (w' := w') (m' := updM σ.m k none) (Z' := Z) (some k) (fun _ h => h) (fun _ h => .inl h) (fun b hb => by rw [hsize]; exact hm.zlt b hb) hos htp hout (by omega)
        (fun b hb hne => hoth b fun e => hne k rfl (by rw [hbk, e])) (fun r hr => by
          have : r ≠ k := fun e => hr (by rw [e])
          simp [updM, this]) (fun r hr => by
          simp only [Option.some.injEq] at hr; subst hr
          exact ⟨by rw [hmk]; rfl, fun blk hblk => by simp [updM] at hblk⟩)
      have inv1 := inv.stepped hg1 hm1
      have hL0 : BufL (fun b => Z b ∨ b = g) w θ k z es := hm.bufL hmk (fun _ h => .inl h) (fun b hb => .inr (by rw [hbk] at hb; simpa using hb.symm))
      have hL : BufL (fun b => Z b ∨ b = g) w' θ k z es := ⟨hL0.lst.same fun b o' _ => hcell b o', fun lo hi v h => (hL0.part lo hi v (h.same fun b o' _ => (hcell b o').symm)).same fun b o' _ => hcell b o'⟩
      have hm2 := hm1.frzN (r := k) (z := z) (es := es) (g := g) (by rw [hsize]; exact hg) (by
        rcases hm.own k g (by rw [hmk]; rfl) hbk with h | h
        · exact h
        · omega) (fun r hr hb => by
        simp only [updM] at hr
        split at hr
        · cases hr
        · rename_i hne'
          exact hne' (hm.disj r k g hr (by rw [hmk]; rfl) hb hbk)) hL
      have inv2 := Inv.frzW hL inv1 (fun _ h => .inl h) hm2
      have heq : frzM k z es (updM σ.m k none) = updM (frzM k z es σ.m) k none := by
        funext i
        by_cases hi : i = k
        · subst hi; simp [frzM, updM]
        · simp [frzM, updM, hi]
      rw [heq] at inv2
      have hlst := hL.lst
      rw [hθ] at hlst
      have inv3 := Inv.put (a := ⟨a.tmps, []⟩) inv2 hdW hdN (r := ⟨[], [], .lst z es, [], none, []⟩) (v := .slice (some ⟨g, 0, none⟩) es.length c') ⟨hlst, .refl _ _, fun _ _ => rfl, inv2.mem, by simp⟩
      refine wp_value hrun ?_
      rw [hod]
      exact hK _ _ _ _ _ hk inv3
end
end Go.Ev
