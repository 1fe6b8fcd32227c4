/- A part of the proof: symbolic evaluation of the program's functions, proved sound against the model; no condition. -/
/-
  The framework 'Ev', part J: guards, regions, code and functions: what the evaluator asks is enough.
  Conditions: none; a text of lemmas.
-/
import Derived.Test.YteakklbbdfgbdaaEvI
import Derived.Deep.LoopGhost
namespace Go.Ev
open Go Go.RowKit
set_option linter.unusedVariables false
set_option linter.unusedSectionVars false
set_option linter.unusedSimpArgs false

/-- Inside a region: W are the slots written in it. -/
structure Inv (X : Cx) (N : Nat) (G : Prop) (Z : Nat → Prop) (w : World) (θ : Nat → Value) (W : List Nat) (σ : St) (tm : Array Value) : Prop where
  slot : ∀ k, SRep Z w θ tm (σ.s k) (tm.getD k undef)
  mem : Mem X Z w θ σ.m
  path : ∀ k q y, σ.s k = .gd q y → ∀ e ∈ q, e.1 ∈ W ∧ ∃ c, boolOf (σ.s e.1) = some c
  nog : G ∨ ∀ k q y, σ.s k ≠ .gd q y
  size : tm.size = N

section
variable {P : Program} {X : Cx} {Z Z' : Nat → Prop} {w w' : World} {θ θ' : Nat → Value} {σ : St} {Φ : Nat → Option Ctr} {N : Nat}

theorem rep_nogd {x : AV} {v : Value} (h : Rep Z w θ x v) (q : List (Nat × Bool)) (y : AV) : x ≠ .gd q y := by
  rintro rfl; cases h

theorem SRep.of_rep {tm : Array Value} {x : AV} {v : Value} (h : Rep Z w θ x v) : SRep Z w θ tm x v := by
  cases x <;> first | exact h | cases h

theorem SRep.rep {tm : Array Value} {x : AV} {v : Value} (h : SRep Z w θ tm x v) (hx : ∀ q y, x ≠ .gd q y) : Rep Z w θ x v := by
  cases x <;> first | exact h | exact absurd rfl (hx _ _)

theorem getD_set_same {tm : Array Value} {d : Nat} {v : Value} (h : d < tm.size) : (tm.setIfInBounds d v).getD d undef = v := by
  simp [Array.getD, h]
theorem getD_set_ne {tm : Array Value} {d k : Nat} {v : Value} (h : k ≠ d) : (tm.setIfInBounds d v).getD k undef = tm.getD k undef := by
  simp only [Array.getD_eq_getD_getElem?, Array.getElem?_setIfInBounds]
  rw [if_neg (by omega)]
theorem get_set_ne {tm : Array Value} {d k : Nat} {v : Value} (h : k ≠ d) : (tm.setIfInBounds d v)[k]? = tm[k]? := by
  rw [Array.getElem?_setIfInBounds, if_neg (by omega)]

theorem pathT_set {tm : Array Value} {d : Nat} {v : Value} {q : List (Nat × Bool)} (h : ∀ e ∈ q, e.1 ≠ d) : pathT (tm.setIfInBounds d v) q ↔ pathT tm q := by
  constructor
  · intro hp e he; have := hp e he; rwa [get_set_ne (h e he)] at this
  · intro hp e he; rw [get_set_ne (h e he)]; exact hp e he

theorem SRep.goes {tm tm' : Array Value} (g : Goes Z w Z' w') (ht : ∀ k, θ' k = θ k) {x : AV} {v : Value} (h : SRep Z w θ tm x v) (hq : ∀ q y, x = .gd q y → (pathT tm' q ↔ pathT tm q)) : SRep Z' w' θ' tm' x v := by
  have hθ : θ' = θ := funext ht
  subst hθ
  cases x with
  | gd q y => exact ⟨fun hp => (h.1 ((hq q y rfl).1 hp)).step g, fun hp => h.2 fun hp' => hp ((hq q y rfl).2 hp')⟩
  | _ => exact Rep.step g h

theorem SRep.kill {tm tm' : Array Value} (g : Goes Z w Z' w') (r : Nat) (ht : ∀ k, k ≠ r → θ' k = θ k) {x : AV} {v : Value} (h : SRep Z w θ tm x v) (hq : ∀ q y, x = .gd q y → (pathT tm' q ↔ pathT tm q)) : SRep Z' w' θ' tm' (kill3 r x) v := by
  cases x with
  | gd q y => exact ⟨fun hp => ((h.1 ((hq q y rfl).1 hp)).kill2 r ht).step g, fun hp => h.2 fun hp' => hp ((hq q y rfl).2 hp')⟩
  | _ => exact .of_rep ((Rep.kill2 h r ht).step g)

theorem kill0_gd {r : Nat} {x : AV} {q : List (Nat × Bool)} {y : AV} (h : kill0 r x = .gd q y) : x = .gd q y := by
  cases x <;> simp only [kill0] at h <;> first | exact h | (cases h; done) | (split at h <;> cases h)
theorem kill3_gd {r : Nat} {x : AV} {q : List (Nat × Bool)} {y : AV} (h : kill3 r x = .gd q y) : ∃ y', x = .gd q y' := by
  cases x with
  | gd q' y' => simp only [kill3] at h; cases h; exact ⟨y', rfl⟩
  | tup vs => simp only [kill3, kill2] at h; cases h
  | agg cs => simp only [kill3, kill2, kill1] at h; cases h
  | _ => exact ⟨y, kill0_gd (r := r) h⟩

theorem boolOf_kill3 {r : Nat} {x : AV} {c : Bool} (h : boolOf x = some c) : boolOf (kill3 r x) = some c := by
  unfold boolOf at h
  split at h
  · exact h
  · exact h
  · cases h

/-- The state behind an operation that ran. -/
theorem Inv.put {G : Prop} {W : List Nat} {a : Act} (inv : Inv X N G Z w θ W σ a.tmps) {d : Nat} (hdW : d ∉ W) (hdN : d < N) {r : Res} {v : Value} (ho : Out X Z w θ σ.m d r v Z' w' θ') :
    Inv X N G Z' w' θ' (d :: W) (σ.put (some d) r) (a.tmps.setIfInBounds d v) := by
  have hlt : d < a.tmps.size := by rw [inv.size]; exact hdN
  have hgd : ∀ k q y, σ.s k = .gd q y → ∀ e ∈ q, e.1 ≠ d := fun k q y h e he hed => hdW (hed ▸ (inv.path k q y h e he).1)
  have hval := ho.val
  have hnval : ∀ q y, r.val ≠ .gd q y := fun q y => rep_nogd ho.val q y
  obtain ⟨pre, post, val, ups, new, tch⟩ := r
  cases new with
  | none =>
    refine ⟨?_, ho.mem, ?_, ?_, by simpa using inv.size⟩
    · intro k
      simp only [St.put]
      by_cases hk : k = d
      · subst hk
        rw [getD_set_same hlt]
        simp only [upd, if_true]
        exact .of_rep hval
      · rw [getD_set_ne hk]
        simp only [upd, hk, if_false]
        exact (inv.slot k).goes ho.goes (fun k => ho.th k (fun _ _ e => by cases e)) (fun q y e => pathT_set (hgd k q y e))
    · intro k q y hk e he
      simp only [St.put] at hk ⊢
      by_cases hkd : k = d
      · subst hkd
        simp only [upd, if_true] at hk
        exact absurd hk (hnval q y)
      · simp only [upd, hkd, if_false] at hk
        obtain ⟨h1, c, h2⟩ := inv.path k q y hk e he
        refine ⟨List.mem_cons_of_mem _ h1, c, ?_⟩
        have : e.1 ≠ d := hgd k q y hk e he
        simp only [upd, this, if_false]
        exact h2
    · rcases inv.nog with h | h
      · exact .inl h
      · right
        intro k q y hk
        simp only [St.put] at hk
        by_cases hkd : k = d
        · subst hkd
          simp only [upd, if_true] at hk
          exact hnval q y hk
        · simp only [upd, hkd, if_false] at hk
          exact h k q y hk
  | some b =>
    obtain ⟨i, b⟩ := b
    have hth : ∀ k, k ≠ i → θ' k = θ k := fun k hk => ho.th k (fun i' b' e => by cases e; exact hk)
    refine ⟨?_, ho.mem, ?_, ?_, by simpa using inv.size⟩
    · intro k
      simp only [St.put]
      by_cases hk : k = d
      · subst hk
        rw [getD_set_same hlt]
        simp only [upd, if_true]
        exact .of_rep hval
      · rw [getD_set_ne hk]
        simp only [upd, hk, if_false, killS]
        exact (inv.slot k).kill ho.goes i hth (fun q y e => pathT_set (hgd k q y e))
    · intro k q y hk e he
      simp only [St.put] at hk ⊢
      by_cases hkd : k = d
      · subst hkd
        simp only [upd, if_true] at hk
        exact absurd hk (hnval q y)
      · simp only [upd, hkd, if_false, killS] at hk
        obtain ⟨y', hk'⟩ := kill3_gd hk
        obtain ⟨h1, c, h2⟩ := inv.path k q y' hk' e he
        refine ⟨List.mem_cons_of_mem _ h1, c, ?_⟩
        have : e.1 ≠ d := hgd k q y' hk' e he
        simp only [upd, this, if_false, killS]
        exact boolOf_kill3 h2
    · rcases inv.nog with h | h
      · exact .inl h
      · right
        intro k q y hk
        simp only [St.put] at hk
        by_cases hkd : k = d
        · subst hkd
          simp only [upd, if_true] at hk
          exact hnval q y hk
        · simp only [upd, hkd, if_false, killS] at hk
          obtain ⟨y', hk'⟩ := kill3_gd hk
          exact h k q y' hk'

/-- The same without a slot: a store. -/
theorem Inv.put0 {G : Prop} {W : List Nat} {a : Act} (inv : Inv X N G Z w θ W σ a.tmps) {d : Nat} {r : Res} {v : Value} (hn : r.new = none) (ho : Out X Z w θ σ.m d r v Z' w' θ') :
    Inv X N G Z' w' θ' W (σ.put none r) a.tmps := by
  obtain ⟨pre, post, val, ups, new, tch⟩ := r
  simp only at hn; subst hn
  exact ⟨fun k => (inv.slot k).goes ho.goes (fun k => ho.th k (fun _ _ e => by cases e)) (fun _ _ _ => Iff.rfl), ho.mem, inv.path, inv.nog, inv.size⟩

/-! ### Guards -/
theorem boolOf_slot {tm : Array Value} {x : AV} {c b : Bool} {g : Nat} (h : SRep Z w θ tm x (tm.getD g undef)) (hc : boolOf x = some c) (hb : tm[g]? = some (.bool b)) : c = b := by
  have hg : tm.getD g undef = .bool b := by rw [Array.getD_eq_getD_getElem?, hb]; rfl
  rw [hg] at h
  unfold boolOf at hc
  split at hc
  · simp only [Option.some.injEq] at hc; subst hc; cases h; rfl
  · simp only [Option.some.injEq] at hc; subst hc
    rename_i q c'
    by_cases hp : pathT tm q
    · have := h.1 hp; cases this; rfl
    · have := h.2 hp; simp [undef] at this
  · cases hc

/-- A guard that says yes: its whole path holds. -/
theorem path_yes {tm : Array Value} (hs : ∀ k, SRep Z w θ tm (σ.s k) (tm.getD k undef)) {g : Nat} {b : Bool} {p : List (Nat × Bool)} (hpg : pathG g b (σ.s g) = some p) (hb : tm[g]? = some (.bool b)) : pathT tm p := by
  have hg : tm.getD g undef = .bool b := by rw [Array.getD_eq_getD_getElem?, hb]; rfl
  have h := hs g
  rw [hg] at h
  unfold pathG at hpg
  split at hpg
  · simp only [Option.some.injEq] at hpg; subst hpg
    intro e he; simp at he; subst he; exact hb
  · simp only [Option.some.injEq] at hpg; subst hpg
    rename_i q c' heq
    rw [heq] at h
    by_cases hp : pathT tm q
    · exact pathT_app hp hb
    · have := h.2 hp; simp [undef] at this
  · cases hpg

theorem path_last {tm : Array Value} {g : Nat} {b : Bool} {p : List (Nat × Bool)} {x : AV} (hpg : pathG g b x = some p) (hp : pathT tm p) : tm[g]? = some (.bool b) := by
  unfold pathG at hpg
  split at hpg
  · simp only [Option.some.injEq] at hpg; subst hpg; exact hp (g, b) (by simp)
  · simp only [Option.some.injEq] at hpg; subst hpg; exact hp (g, b) (by simp)
  · cases hpg

theorem path_mem {G : Prop} {W : List Nat} {tm : Array Value} (inv : Inv X N G Z w θ W σ tm) {g : Nat} {b : Bool} {p : List (Nat × Bool)} (hg : g ∈ W) (hpg : pathG g b (σ.s g) = some p) : ∀ e ∈ p, e.1 ∈ W ∧ ∃ c, boolOf (σ.s e.1) = some c := by
  unfold pathG at hpg
  split at hpg
  · rename_i c heq
    simp only [Option.some.injEq] at hpg; subst hpg
    intro e he; simp at he; subst he
    exact ⟨hg, c, by rw [heq]; rfl⟩
  · rename_i q c heq
    simp only [Option.some.injEq] at hpg; subst hpg
    intro e he
    rcases List.mem_append.1 he with he | he
    · exact inv.path g q _ heq e he
    · simp at he; subst he
      exact ⟨hg, c, by rw [heq]; rfl⟩
  · cases hpg

theorem pathP_of {tm : Array Value} (hs : ∀ k, SRep Z w θ tm (σ.s k) (tm.getD k undef)) : ∀ {p : List (Nat × Bool)}, (∀ e ∈ p, ∃ c, boolOf (σ.s e.1) = some c) → pathT tm p → pathP σ.s p
  | [], _, _ => trivial
  | (g, b) :: p, h, hp => by
    obtain ⟨c, hc⟩ := h (g, b) (by simp)
    have := boolOf_slot (hs g) hc (hp (g, b) (by simp))
    subst this
    exact ⟨hc, pathP_of hs (fun e he => h e (by simp [he])) (fun e he => hp e (by simp [he]))⟩

theorem pathB_of {s : Nat → AV} : ∀ {p : List (Nat × Bool)}, (∀ e ∈ p, ∃ c, boolOf (s e.1) = some c) → (pathB s p = true ↔ pathP s p)
  | [], _ => by simp [pathB, pathP]
  | (g, b) :: p, h => by
    obtain ⟨c, hc⟩ := h (g, b) (by simp)
    simp only [pathB, pathP]
    rw [hc]
    simp only [Bool.and_eq_true, beq_iff_eq, Option.some.injEq]
    rw [pathB_of (fun e he => h e (by simp [he]))]

theorem pathT_of_P {tm : Array Value} (hs : ∀ k, SRep Z w θ tm (σ.s k) (tm.getD k undef)) {g : Nat} {b : Bool} (hb : boolOf (σ.s g) = some b) : (tm[g]? = some (.bool b)) ∨ (∃ q, σ.s g = .gd q (.bool b) ∧ ¬ pathT tm q ∧ tm.getD g undef = undef) := by
  have h := hs g
  unfold boolOf at hb
  split at hb
  · rename_i c heq
    simp only [Option.some.injEq] at hb; subst hb
    rw [heq] at h
    left
    apply getD_bool
    generalize tm.getD g undef = v at h
    cases h; rfl
  · rename_i q c heq
    simp only [Option.some.injEq] at hb; subst hb
    rw [heq] at h
    by_cases hp : pathT tm q
    · left
      apply getD_bool
      have := h.1 hp
      generalize tm.getD g undef = v at this
      cases this; rfl
    · exact .inr ⟨q, heq, hp, h.2 hp⟩
  · cases hb

theorem guardL_mem {s : Nat → AV} {p : List (Nat × Bool)} : ∀ {l : List Prop} {q : Prop}, q ∈ l → (∀ e ∈ guardL s p l, e) → pathP s p → q
  | x :: l, q, h, hall, hp => by
    simp only [guardL] at hall
    rcases List.mem_cons.1 h with rfl | h
    · exact hall _ (List.mem_cons_self ..) hp
    · exact guardL_mem h (fun e he => hall e (List.mem_cons_of_mem _ he)) hp

theorem guardL_all {s : Nat → AV} {p : List (Nat × Bool)} : ∀ {l : List Prop}, (pathP s p → ∀ e ∈ l, e) → ∀ e ∈ guardL s p l, e
  | [], _, e, he => by simp [guardL] at he
  | x :: l, h, e, he => by
    simp only [guardL] at he
    rcases List.mem_cons.1 he with rfl | he
    · exact fun hp => h hp x (by simp)
    · exact guardL_all (fun hp y hy => h hp y (List.mem_cons_of_mem _ hy)) e he

/-! ### Blocks behind an operation that may not have run -/
theorem rep_lst_z {z z' : List AV} {es : List (List AV)} {v : Value} (hz : z.length = z'.length) (h : Rep Z w θ (.lst z es) v) : Rep Z w θ (.lst z' es) v := by
  cases h with
  | lst _ _ _ a cap f hc hm hzz hat hmem h1 h => exact .lst θ z' es a cap f hc hm (fun e he => (hzz e he).trans hz) hat (fun hne => by
      obtain ⟨b, o, e1, e2, e3⟩ := hmem hne
      exact ⟨b, o, e1, e2, fun i j c hcc => by rw [← hz]; exact e3 i j c hcc⟩) h1 h

theorem mergeA_rep {c : Bool} {x y z : AV} {v : Value} (h : mergeA c x y = some z) : (c = true → Rep Z w θ x v → Rep Z w θ z v) ∧ (c = false → Rep Z w θ y v → Rep Z w θ z v) ∧ z.atom = true := by
  unfold mergeA at h
  split at h
  · split at h <;> try (cases h; done)
    rename_i hk
    simp only [Option.some.injEq] at h; subst h; subst hk
    exact ⟨fun hc hr => by subst hc; exact hr, fun hc hr => by subst hc; exact hr, rfl⟩
  · simp only [Option.some.injEq] at h; subst h
    exact ⟨fun hc hr => by subst hc; exact hr, fun hc hr => by subst hc; exact hr, rfl⟩
  · split at h <;> try (cases h; done)
    rename_i hz
    simp only [Option.some.injEq] at h; subst h
    exact ⟨fun hc hr => by subst hc; exact rep_lst_z hz hr, fun hc hr => by subst hc; exact hr, rfl⟩
  · cases h

theorem mergeL_cells {c : Bool} : ∀ {xs ys zs : List AV} {vs : List Value}, mergeL c xs ys = some zs → (c = true → Cells Z w θ xs vs → Cells Z w θ zs vs) ∧ (c = false → Cells Z w θ ys vs → Cells Z w θ zs vs)
  | [], [], zs, vs, h => by simp [mergeL] at h; subst h; exact ⟨fun _ h => h, fun _ h => h⟩
  | [], _ :: _, zs, vs, h => by simp [mergeL] at h
  | _ :: _, [], zs, vs, h => by simp [mergeL] at h
  | x :: xs, y :: ys, zs, vs, h => by
    unfold mergeL at h
    split at h <;> try (cases h; done)
    rename_i v vs' hv hvs
    simp only [Option.some.injEq] at h; subst h
    constructor
    · intro hc hcs
      cases vs with
      | nil => have := hcs.len; simp at this
      | cons u us =>
        have hrest : Cells Z w θ xs us := by
          have := hcs.drop 1; simpa using this
        have h1 := (mergeA_rep (Z := Z) (w := w) (θ := θ) (v := u) hv)
        exact Cells.append (Cells.one' (h1.1 hc (hcs.rep 0 x u rfl rfl)) h1.2.2 (hcs.one u (by simp))) ((mergeL_cells hvs).1 hc hrest)
    · intro hc hcs
      cases vs with
      | nil => have := hcs.len; simp at this
      | cons u us =>
        have hrest : Cells Z w θ ys us := by
          have := hcs.drop 1; simpa using this
        have h1 := (mergeA_rep (Z := Z) (w := w) (θ := θ) (v := u) hv)
        exact Cells.append (Cells.one' (h1.2.1 hc (hcs.rep 0 y u rfl rfl)) h1.2.2 (hcs.one u (by simp))) ((mergeL_cells hvs).2 hc hrest)

/-- The same numbers of cells, kept otherwise: a list of blocks may be taken for another that says as much. -/
theorem Mem.swap {m m' : Nat → Option Blk} (h : Mem X Z w θ m) (hs : ∀ r, (m' r).isSome = true → (m r).isSome = true) (hb : ∀ r blk, m' r = some blk → BRep Z w θ r blk) : Mem X Z w θ m' :=
  ⟨hb, fun r r' b h1 h2 => h.disj r r' b (hs r h1) (hs r' h2), fun r b h1 => h.own r b (hs r h1), h.zlt, h.frame, h.zin, h.znew, h.fix⟩

/-- Blocks merged: said of one block list of one element, which is all that an operation under a guard writes. -/
theorem mergeU_one {c : Bool} {m : Nat → Option Blk} {r : Nat} {b : Blk} {us : List (Nat × Blk)} (h : mergeU c m [(r, b)] = some us) : ∃ cs cs' cs'', b = .cells cs ∧ m r = some (.cells cs') ∧ mergeL c cs cs' = some cs'' ∧ us = [(r, .cells cs'')] := by
  cases b with
  | buf t z es => simp [mergeU] at h
  | qb t z es => simp [mergeU] at h
  | ms n ks => simp [mergeU] at h
  | clo f z es i off => simp [mergeU] at h
  | dead => simp [mergeU] at h
  | cells cs =>
    simp only [mergeU] at h
    split at h <;> try (cases h; done)
    rename_i cs' us' hm hus
    simp only [Option.some.injEq] at hus; subst hus
    split at h <;> try (cases h; done)
    rename_i cs'' hcs
    simp only [Option.some.injEq] at h; subst h
    exact ⟨cs, cs', cs'', rfl, hm, hcs, rfl⟩


/-- What a slot holds behind a guarded operation, whether it ran or not. -/
theorem Inv.putG {G : Prop} {W : List Nat} {a : Act} (hG : G) (inv : Inv X N G Z w θ W σ a.tmps) {d : Nat} (hdW : d ∉ W) (hdN : d < N) {p : List (Nat × Bool)} (hp : ∀ e ∈ p, e.1 ∈ W ∧ ∃ c, boolOf (σ.s e.1) = some c)
    {x : AV} {v : Value} {us : List (Nat × Blk)} (hg : Goes Z w Z' w') (hm : Mem X Z' w' θ (updL σ.m us)) (h1 : pathT a.tmps p → Rep Z' w' θ x v) (h2 : ¬ pathT a.tmps p → v = undef) {pre post : List Prop} {t : List Nat} :
    Inv X N G Z' w' θ (d :: W) (σ.put (some d) ⟨pre, post, .gd p x, us, none, t⟩) (a.tmps.setIfInBounds d v) := by
  have hlt : d < a.tmps.size := by rw [inv.size]; exact hdN
  have hgd : ∀ k q y, σ.s k = .gd q y → ∀ e ∈ q, e.1 ≠ d := fun k q y h e he hed => hdW (hed ▸ (inv.path k q y h e he).1)
  have hpd : ∀ e ∈ p, e.1 ≠ d := fun e he hed => hdW (hed ▸ (hp e he).1)
  refine ⟨?_, hm, ?_, .inl hG, by simpa using inv.size⟩
  · intro k
    simp only [St.put]
    by_cases hk : k = d
    · subst hk
      rw [getD_set_same hlt]
      simp only [upd, if_true]
      exact ⟨fun hq => h1 ((pathT_set hpd).1 hq), fun hq => h2 fun hq' => hq ((pathT_set hpd).2 hq')⟩
    · rw [getD_set_ne hk]
      simp only [upd, hk, if_false]
      exact (inv.slot k).goes hg (fun _ => rfl) (fun q y e => pathT_set (hgd k q y e))
  · intro k q y hk e he
    simp only [St.put] at hk ⊢
    by_cases hkd : k = d
    · subst hkd
      simp only [upd, if_true, AV.gd.injEq] at hk
      obtain ⟨rfl, _⟩ := hk
      obtain ⟨e1, c, e2⟩ := hp e he
      refine ⟨List.mem_cons_of_mem _ e1, c, ?_⟩
      simp only [upd, hpd e he, if_false]
      exact e2
    · simp only [upd, hkd, if_false] at hk
      obtain ⟨e1, c, e2⟩ := inv.path k q y hk e he
      refine ⟨List.mem_cons_of_mem _ e1, c, ?_⟩
      simp only [upd, hgd k q y hk e he, if_false]
      exact e2

theorem askL_mem : ∀ {l : List Prop} {K : Prop}, askL l K → (∀ q ∈ l, q) ∧ K
  | [], K, h => ⟨by simp, h⟩
  | x :: l, K, h => by
    obtain ⟨h1, h2⟩ := h
    obtain ⟨h3, h4⟩ := askL_mem h2
    exact ⟨fun q hq => by rcases List.mem_cons.1 hq with rfl | hq; exact h1; exact h3 q hq, h4⟩
theorem knowL_mem : ∀ {l : List Prop} {K : Prop}, knowL l K → (∀ q ∈ l, q) → K
  | [], K, h, _ => h
  | x :: l, K, h, hl => knowL_mem (h (hl x (by simp))) (fun q hq => hl q (by simp [hq]))

theorem put_eq (a : Act) (d : Nat) (v : Value) : a.put (some d) v = { a with tmps := a.tmps.setIfInBounds d v } := rfl

theorem mergeU_len {c : Bool} {m : Nat → Option Blk} {us us' : List (Nat × Blk)} (h : mergeU c m us = some us') (hl : us.length ≤ 1) : us = [] ∧ us' = [] ∨ ∃ r b, us = [(r, b)] := by
  match us, hl with
  | [], _ => simp [mergeU] at h; exact .inl ⟨rfl, h⟩
  | [(r, b)], _ => exact .inr ⟨r, b, rfl⟩

end

section
variable {P : Program} {X : Cx} {σ : St} {Φ : Nat → Option Ctr} {N : Nat}

/-- The outcomes never write more than one block. -/
theorem callP_ups {t bs : List Nat} {x : Option (Prop × AV × List AV)} {r : Res} (h : callP t bs x = some r) : r.ups.length ≤ 1 ∧ r.new = none := by
  unfold callP at h
  split at h <;> try (cases h; done)
  split at h <;> try (cases h; done)
  simp only [Option.some.injEq] at h; subst h; exact ⟨by simp, rfl⟩
theorem callS_ups {r0 : Nat} {bs : List Nat} {x : Option (Prop × AV × List AV)} {r : Res} (h : callS r0 bs x = some r) : r.ups.length ≤ 1 ∧ r.new = none := by
  unfold callS at h
  split at h <;> try (cases h; done)
  split at h <;> try (cases h; done)
  simp only [Option.some.injEq] at h; subst h; exact ⟨by simp, rfl⟩
theorem callR_ups {m : Nat → Option Blk} {C : Option Ctr} {vs : List AV} {r : Res} (h : callR m C vs = some r) : r.ups.length ≤ 1 ∧ r.new = none := by
  unfold callR at h
  split at h
  · unfold callN at h
    split at h
    · exact callP_ups h
    · cases h
  · split at h <;> try (cases h; done)
    unfold callC at h
    split at h <;> try (cases h; done)
    unfold callB at h
    split at h <;> try (cases h; done)
    split at h <;> try (cases h; done)
    exact callS_ups h
  · cases h

theorem q_ups {x : AV} {r : Res} (h : Res.q x = some r) : r.ups = [] ∧ r.new = none := by simp [Res.q] at h; subst h; exact ⟨rfl, rfl⟩
theorem qp_ups {q : Prop} {x : AV} {r : Res} (h : Res.qp q x = some r) : r.ups = [] ∧ r.new = none := by simp [Res.qp] at h; subst h; exact ⟨rfl, rfl⟩
theorem ownW_ups {d T : Nat} {z : List AV} {fn : List AV → Option (Prop × List (List AV))} {x : Option (List AV × List Nat)} {r : Res} (h : ownW d T z fn x = some r) : r.ups = [] := by
  unfold ownW at h
  split at h <;> try (cases h; done)
  split at h <;> try (cases h; done)
  simp only [Option.some.injEq] at h; subst h; rfl
theorem callE_ups {d : Nat} {m : Nat → Option Blk} {C : Option Ctr} {vs : List AV} {r : Res} (h : callE d m C vs = some r) : r.ups.length ≤ 1 := by
  unfold callE at h
  split at h
  · rw [ownW_ups h]; simp
  · exact (callR_ups h).1
  · cases h
theorem cpR_ups {m : Nat → Option Blk} {sz : Nat} {x y : AV} {r : Res} (h : cpR m sz x y = some r) : r.ups.length ≤ 1 ∧ r.new = none := by
  unfold cpR at h
  split at h <;> try (cases h; done)
  unfold cpB at h
  split at h <;> try (cases h; done)
  split at h <;> try (cases h; done)
  simp only [Option.some.injEq] at h; subst h; exact ⟨by simp, rfl⟩
theorem toR_ups {x : Option AV} {r : Res} (h : toR x = some r) : r.ups = [] ∧ r.new = none := by
  obtain ⟨y, _, h⟩ := toR_some h; exact q_ups h
theorem un1_ups {io : IOp} {x : AV} {r : Res} (h : un1 io x = some r) : r.ups = [] ∧ r.new = none := by
  unfold un1 at h
  split at h <;> first | exact q_ups h | (cases h; done) | (split at h <;> first | exact q_ups h | cases h)

theorem evOp_ups {io : IOp} {d : Nat} {p : List (Nat × Bool)} {r : Res} (h : evOp Φ io d p σ = some r) : r.ups.length ≤ 1 := by
  have of0 : (r.ups = [] ∧ r.new = none) → r.ups.length ≤ 1 := fun h => by rw [h.1]; simp
  cases io <;> simp only [evOp] at h <;> try (cases h; done)
  case mov x => obtain ⟨_, _, h⟩ := bind1_some h; exact of0 (un1_ups h)
  case not x => obtain ⟨_, _, h⟩ := bind1_some h; exact of0 (un1_ups h)
  case neg x => obtain ⟨_, _, h⟩ := bind1_some h; exact of0 (un1_ups h)
  case conv k x => obtain ⟨_, _, h⟩ := bind1_some h; exact of0 (un1_ups h)
  case extract k x => obtain ⟨_, _, h⟩ := bind1_some h; exact of0 (un1_ups h)
  case nilchk x => obtain ⟨_, _, h⟩ := bind1_some h; exact of0 (un1_ups h)
  case pick c x y =>
    split at h <;> try (cases h; done)
    obtain ⟨_, _, h⟩ := bind1_some h
    obtain ⟨_, _, _, _, h⟩ := bind2_some h
    obtain ⟨_, _, _, _, _, _, h⟩ := pickV_some h
    exact of0 (q_ups h)
  case arith op x y =>
    obtain ⟨_, _, _, _, h⟩ := bind2_some h
    unfold arithR at h
    split at h <;> try (cases h; done)
    split at h <;> try (cases h; done)
    split at h <;> first | exact of0 (q_ups h) | exact of0 (qp_ups h) | cases h
  case cmp op ty x y => obtain ⟨_, _, _, _, h⟩ := bind2_some h; exact of0 (toR_ups h)
  case eqa ng sh x y => obtain ⟨_, _, _, _, h⟩ := bind2_some h; exact of0 (toR_ups h)
  case len ty x =>
    obtain ⟨y, _, h⟩ := bind1_some h
    rcases lenM_or σ.m ty y with ⟨r0, a0, b0, c0, rfl⟩ | heq
    · simp only [lenM] at h
      unfold lenV at h
      split at h <;> try (cases h; done)
      all_goals (split at h <;> try (cases h; done))
      all_goals (simp only [Option.some.injEq] at h; subst h; simp)
    · rw [heq] at h
      unfold lenR at h
      split at h <;> first | exact of0 (q_ups h) | (cases h; done) | (simp only [Option.some.injEq] at h; subst h; simp)
  case minmax mx xs =>
    split at h <;> try (cases h; done)
    exact of0 (toR_ups h)
  case faddr off x =>
    obtain ⟨_, _, h⟩ := bind1_some h
    unfold faddrR at h
    split at h <;> first | exact of0 (q_ups h) | cases h
  case iaddrS zr x i =>
    obtain ⟨_, _, _, _, h⟩ := bind2_some h
    unfold iaddrSM at h
    split at h
    · unfold iasV at h
      split at h <;> try (cases h; done)
      all_goals (split at h <;> try (cases h; done))
      all_goals (simp only [Option.some.injEq] at h; subst h; simp)
    · unfold iasP at h
      split at h <;> try (cases h; done)
      split at h <;> try (cases h; done)
      simp only [Option.some.injEq] at h; subst h; simp
    · unfold iaddrSR at h
      split at h <;> try (cases h; done)
      split at h <;> try (cases h; done)
      simp only [Option.some.injEq] at h; subst h; simp
  case iaddrA n sz x i =>
    obtain ⟨_, _, _, _, h⟩ := bind2_some h
    unfold iaddrAR at h
    split at h <;> first | exact of0 (qp_ups h) | cases h
  case load n ag x =>
    obtain ⟨_, _, h⟩ := bind1_some h
    unfold loadR at h
    split at h <;> try (cases h; done)
    · split at h <;> try (cases h; done)
      split at h <;> try (cases h; done)
      simp only [Option.some.injEq] at h; subst h; simp
    · split at h <;> try (cases h; done)
      exact of0 (q_ups h)
    · split at h <;> try (cases h; done)
      all_goals (split at h <;> try (cases h; done))
      all_goals (simp only [Option.some.injEq] at h; subst h; simp)
  case store n x v =>
    obtain ⟨_, _, _, _, h⟩ := bind2_some h
    unfold storeR at h
    split at h <;> try (cases h; done)
    all_goals (split at h <;> try (cases h; done))
    all_goals (split at h <;> try (cases h; done))
    all_goals (simp only [Option.some.injEq] at h; subst h; simp)
  case alloc z => simp only [Option.some.injEq] at h; subst h; simp
  case box n x =>
    obtain ⟨_, _, h⟩ := bind1_some h
    unfold boxR at h
    split at h <;> try (cases h; done)
    simp only [Option.some.injEq] at h; subst h; simp
  case build z ps =>
    split at h <;> try (cases h; done)
    exact of0 (q_ups h)
  case bslice n z ps =>
    split at h <;> try (cases h; done)
    exact of0 (q_ups h)
  case call f xs =>
    split at h <;> try (cases h; done)
    exact callE_ups h
  case copy sz x y =>
    obtain ⟨_, _, _, _, h⟩ := bind2_some h
    exact (cpR_ups h).1
  case append e b z x y =>
    obtain ⟨_, _, _, _, h⟩ := bind2_some h
    unfold appQR at h
    split at h
    · unfold appQ at h
      split at h <;> try (cases h; done)
      split at h <;> try (cases h; done)
      simp only [Option.some.injEq] at h; subst h; simp
    unfold appR at h
    split at h <;> try (cases h; done)
    simp only [Option.some.injEq] at h; subst h; simp
  case mkmap n => simp only [Option.some.injEq] at h; subst h; simp
  case mkclo f x =>
    obtain ⟨_, _, h⟩ := bind1_some h
    unfold cloR at h
    split at h <;> try (cases h; done)
    simp only [Option.some.injEq] at h; subst h; simp
  case mlook n x i =>
    obtain ⟨_, _, _, _, h⟩ := bind2_some h
    unfold lookR at h
    split at h <;> try (cases h; done)
    unfold lookM1 at h
    split at h <;> try (cases h; done)
    split at h <;> try (cases h; done)
    simp only [Option.some.injEq] at h; subst h; simp
  case mput n x i =>
    obtain ⟨_, _, _, _, h⟩ := bind2_some h
    unfold putR at h
    split at h <;> try (cases h; done)
    unfold putM1 at h
    split at h <;> try (cases h; done)
    split at h <;> try (cases h; done)
    simp only [Option.some.injEq] at h; subst h; simp
  case appZ e b z x y =>
    obtain ⟨_, _, _, _, h⟩ := bind2_some h
    unfold appZR at h
    split at h <;> try (cases h; done)
    simp only [Option.some.injEq] at h; subst h; simp
  case appD e b z x y =>
    obtain ⟨_, _, _, _, h⟩ := bind2_some h
    unfold appDR at h
    split at h
    · unfold appR at h
      split at h <;> try (cases h; done)
      simp only [Option.some.injEq] at h; subst h; simp
    · split at h <;> try (cases h; done)
      simp only [Option.some.injEq] at h; subst h; simp
    · cases h
  case mkF b z x y =>
    obtain ⟨_, _, _, _, h⟩ := bind2_some h
    unfold mkFR at h
    split at h <;> try (cases h; done)
    simp only [Option.some.injEq] at h; subst h; simp
  case mkslice e b z x y =>
    obtain ⟨_, _, _, _, h⟩ := bind2_some h
    unfold mkR at h
    split at h <;> try (cases h; done)
    simp only [Option.some.injEq] at h; subst h; simp
  case slice sz x l u =>
    unfold sliceQ at h
    split at h <;> try (cases h; done)
    split at h
    · unfold slQ at h
      split at h <;> try (cases h; done)
      split at h <;> try (cases h; done)
      simp only [Option.some.injEq] at h; subst h; simp
    unfold sliceO at h
    split at h <;> try (cases h; done)
    unfold sliceR at h
    split at h
    · split at h <;> try (cases h; done)
      simp only [Option.some.injEq] at h; subst h; simp
    · split at h <;> try (cases h; done)
      simp only [Option.some.injEq] at h; subst h; simp
    · unfold slB at h
      split at h <;> try (cases h; done)
      split at h <;> try (cases h; done)
      simp only [Option.some.injEq] at h; subst h; simp
    · split at h <;> try (cases h; done)
      unfold slP at h
      split at h <;> try (cases h; done)
      split at h <;> try (cases h; done)
      simp only [Option.some.injEq] at h; subst h; simp
    · cases h
  case s2b x =>
    obtain ⟨_, _, h⟩ := bind1_some h
    unfold s2bR at h
    split at h <;> try (cases h; done)
    simp only [Option.some.injEq] at h; subst h; simp
  case b2s x =>
    obtain ⟨_, _, h⟩ := bind1_some h
    unfold b2sR at h
    split at h
    · exact of0 (q_ups h)
    · split at h <;> try (cases h; done)
      simp only [Option.some.injEq] at h; subst h; simp
    · unfold b2sB at h
      split at h <;> try (cases h; done)
      split at h <;> try (cases h; done)
      simp only [Option.some.injEq] at h; subst h; simp
    · unfold b2sP at h
      split at h <;> try (cases h; done)
      split at h <;> try (cases h; done)
      simp only [Option.some.injEq] at h; subst h; simp
    · cases h
  case idxS x y =>
    obtain ⟨_, _, _, _, h⟩ := bind2_some h
    unfold idxSR at h
    split at h <;> try (cases h; done)
    simp only [Option.some.injEq] at h; subst h; simp
  case idxV n s ag x y =>
    obtain ⟨_, _, h⟩ := bind1_some h
    unfold idxVR at h
    split at h <;> try (cases h; done)
    split at h <;> try (cases h; done)
    simp only [Option.some.injEq] at h; subst h; simp
  case callv fs x xs =>
    split at h <;> try (cases h; done)
    · split at h <;> try (cases h; done)
      exact (callR_ups h).1
    · unfold cloV at h
      split at h <;> try (cases h; done)
      split at h <;> try (cases h; done)
      unfold tchR at h
      split at h <;> try (cases h; done)
      simp only [Option.some.injEq] at h; subst h; simp
  case bsliceO e n z ps =>
    split at h <;> try (cases h; done)
    simp only [Option.some.injEq] at h; subst h; simp
  case eqnil neg x =>
    obtain ⟨_, _, h⟩ := bind1_some h
    unfold nilR at h
    split at h
    · exact of0 (q_ups h)
    · split at h <;> first | exact of0 (q_ups h) | cases h
    · unfold nilV at h
      split at h <;> try (cases h; done)
      split at h <;> try (cases h; done)
      simp only [Option.some.injEq] at h; subst h; simp
    · cases h
  case shl n x =>
    obtain ⟨_, _, h⟩ := bind1_some h
    unfold shR at h
    split at h <;> try (cases h; done)
    split at h <;> first | exact of0 (q_ups h) | cases h
  case shr n x =>
    obtain ⟨_, _, h⟩ := bind1_some h
    unfold shR at h
    split at h <;> try (cases h; done)
    split at h <;> first | exact of0 (q_ups h) | cases h
  case fld off n ag x =>
    obtain ⟨_, _, h⟩ := bind1_some h
    unfold fldR at h
    split at h <;> try (cases h; done)
    split at h <;> first | exact of0 (q_ups h) | cases h

/-- A store makes no new block. -/
theorem put_new {n : Nat} {x i : A} {d : Nat} {p : List (Nat × Bool)} {r : Res} (h : evOp Φ (.mput n x i) d p σ = some r) : r.new = none := by
  simp only [evOp] at h
  obtain ⟨_, _, _, _, h⟩ := bind2_some h
  unfold putR at h
  split at h <;> try (cases h; done)
  unfold putM1 at h
  split at h <;> try (cases h; done)
  split at h <;> try (cases h; done)
  simp only [Option.some.injEq] at h; subst h; rfl
theorem store_new {n : Nat} {x v : A} {d : Nat} {p : List (Nat × Bool)} {r : Res} (h : evOp Φ (.store n x v) d p σ = some r) : r.new = none := by
  simp only [evOp] at h
  obtain ⟨_, _, _, _, h⟩ := bind2_some h
  unfold storeR at h
  split at h <;> try (cases h; done)
  all_goals (split at h <;> try (cases h; done))
  all_goals (split at h <;> try (cases h; done))
  all_goals (simp only [Option.some.injEq] at h; subst h; rfl)

def isSt : IOp → Bool
  | .store _ _ _ | .mput _ _ _ => true
  | _ => false
theorem st_new {io : IOp} (hst : isSt io = true) {d : Nat} {p : List (Nat × Bool)} {r : Res} (h : evOp Φ io d p σ = some r) : r.new = none := by
  cases io <;> first | (cases hst; done) | exact store_new h | exact put_new h
/-- A guarded operation, unfolded. -/
theorem guardR_some {p : List (Nat × Bool)} {ro : Option Res} {r : Res} (h : guardR σ p ro = some r) : ∃ pre post v us t us', ro = some ⟨pre, post, v, us, none, t⟩ ∧ (us = [] ∧ us' = [] ∨ (∃ e, p = [e]) ∧ mergeU (pathB σ.s p) σ.m us = some us') ∧
    r = ⟨guardL σ.s p pre, [], .gd p v, us', none, t⟩ := by
  unfold guardR at h
  split at h <;> try (cases h; done)
  · simp only [Option.some.injEq] at h
    exact ⟨_, _, _, [], _, [], rfl, .inl ⟨rfl, rfl⟩, h.symm⟩
  · split at h <;> try (cases h; done)
    rename_i e us' hus
    simp only [Option.some.injEq] at h
    exact ⟨_, _, _, _, _, us', rfl, .inr ⟨⟨e, rfl⟩, hus⟩, h.symm⟩

end
end Go.Ev
