/- A part of the proof: symbolic evaluation of the program's functions, proved sound against the model; no condition. -/
/-
  The framework 'Ev', part Q: buffers that are frozen, numbered anew, begun; calls with an outcome of a family.
  Conditions: none; a text of lemmas.
-/
import Derived.Test.YteakklbbdfgbdaaEvL
namespace Go.Ev
open Go Go.RowKit
set_option linter.unusedVariables false
set_option linter.unusedSectionVars false
set_option linter.unusedSimpArgs false

/-- What a buffer held, as a list. -/
structure BufL (Z' : Nat → Prop) (w : World) (θ : Nat → Value) (r : Nat) (z : List AV) (es : List (List AV)) : Prop where
  lst : Rep Z' w θ (.lst z es) (θ r)
  part : ∀ lo hi v, Rep Z' w θ (.sv r z.length lo hi) v → Rep Z' w θ (.lst z ((es.drop lo).take (hi - lo))) v

section
variable {X : Cx} {N : Nat} {G : Prop} {W : List Nat} {Z Z' : Nat → Prop} {w w' : World} {θ θ' : Nat → Value} {m : Nat → Option Blk} {σ : St}

theorem Mem.bufL (hm : Mem X Z w θ m) {r T : Nat} {z : List AV} {es : List (List AV)} (hr : m r = some (.buf T z es)) (hz : ∀ b, Z b → Z' b) (hb : ∀ b, bk (θ r) = some b → Z' b) : BufL Z' w θ r z es :=
  ⟨buf_lst hm hr hz hb θ, fun lo hi v h => part_lst hm hr hz hb θ (by
    cases h with
    | sv _ _ _ _ _ a n c a' c' hθ e1 e2 e3 e4 e5 => exact .sv _ _ _ _ _ a n c _ _ hθ e1 e2 e3 e4 e5)⟩

variable {r : Nat} {z : List AV} {es : List (List AV)} (hL : BufL Z' w θ r z es)
include hL
theorem Rep.frz0 {x : AV} {v : Value} (h : Rep Z' w θ x v) : Rep Z' w θ (Ev.frz0 r z es x) v := by
  cases x with
  | vw r' a b c =>
    simp only [Ev.frz0]
    split
    · rename_i e; subst e
      cases h with
      | vw _ _ _ _ _ a' n' c' hθ => rw [← hθ]; exact hL.lst
    · exact h
  | sv r' sz lo hi =>
    simp only [Ev.frz0]
    split
    · rename_i e; subst e
      split
      · rename_i e; subst e; exact hL.part _ _ _ h
      · exact .junk _ _
    · exact h
  | _ => exact h
omit hL in
theorem frz0_atom {x : AV} (h : x.atom = true) : (Ev.frz0 r z es x).atom = true := by
  cases x <;> simp only [Ev.frz0] <;> (try split) <;> (try split) <;> first | rfl | exact h
omit hL in
theorem frz0_lev1 {x : AV} (h : x.lev1 = true) : (Ev.frz1 r z es x).lev1 = true := by
  cases x <;> simp only [Ev.frz1, Ev.frz0] <;> (try split) <;> (try split) <;> first | rfl | exact h
theorem Cells.frz {cs : List AV} {vs : List Value} (h : Cells Z' w θ cs vs) : Cells Z' w θ (cs.map (Ev.frz0 r z es)) vs := by
  refine ⟨by simpa using h.len, ?_, h.one, ?_⟩
  · intro c hc
    obtain ⟨c', hc', rfl⟩ := List.mem_map.1 hc
    exact frz0_atom (h.at1 c' hc')
  · intro i c v hc hv
    rw [List.getElem?_map] at hc
    obtain ⟨c', hc', rfl⟩ := Option.map_eq_some_iff.1 hc
    exact Rep.frz0 hL (h.rep i c' v hc' hv)
theorem Rep.frz1 {x : AV} {v : Value} (h : Rep Z' w θ x v) : Rep Z' w θ (Ev.frz1 r z es x) v := by
  cases x with
  | agg cs =>
    obtain ⟨vs, rfl, hc⟩ := h.cells
    exact (hc.frz hL).agg
  | _ => exact h.frz0 hL
theorem Rep.frz2 {x : AV} {v : Value} (h : Rep Z' w θ x v) : Rep Z' w θ (Ev.frz2 r z es x) v := by
  cases x with
  | tup cs =>
    cases h with
    | tup _ _ vs hl ha h =>
      refine .tup θ _ vs (by simpa using hl) ?_ ?_
      · intro c hc
        obtain ⟨c', hc', rfl⟩ := List.mem_map.1 hc
        exact frz0_lev1 (ha c' hc')
      · intro i c v hc hv
        rw [List.getElem?_map] at hc
        obtain ⟨c', hc', rfl⟩ := Option.map_eq_some_iff.1 hc
        exact (h i c' v hc' hv).frz1 hL
  | _ => exact h.frz1 hL
theorem SRep.frz {tm : Array Value} {x : AV} {v : Value} (h : SRep Z' w θ tm x v) : SRep Z' w θ tm (Ev.frz3 r z es x) v := by
  cases x with
  | gd q y => exact ⟨fun hp => (h.1 hp).frz2 hL, h.2⟩
  | _ => exact .of_rep (Rep.frz2 hL h)
omit hL in
theorem frz3_gd {x : AV} {q : List (Nat × Bool)} {y : AV} (h : Ev.frz3 r z es x = .gd q y) : ∃ y', x = .gd q y' := by
  cases x with
  | gd q' y' => simp only [Ev.frz3] at h; cases h; exact ⟨y', rfl⟩
  | tup vs => simp only [Ev.frz3, Ev.frz2] at h; cases h
  | agg cs => simp only [Ev.frz3, Ev.frz2, Ev.frz1] at h; cases h
  | vw r' a b c => simp only [Ev.frz3, Ev.frz2, Ev.frz1, Ev.frz0] at h; split at h <;> cases h
  | sv r' a b c =>
    simp only [Ev.frz3, Ev.frz2, Ev.frz1, Ev.frz0] at h
    split at h
    · split at h <;> cases h
    · cases h
  | _ => cases h
omit hL in
theorem boolOf_frz3 {x : AV} {c : Bool} (h : boolOf x = some c) : boolOf (Ev.frz3 r z es x) = some c := by
  unfold boolOf at h
  split at h
  · exact h
  · exact h
  · cases h

/-- The slots, where a buffer is taken for a list. -/
theorem Inv.frzW {tm : Array Value} {m' : Nat → Option Blk} (inv : Inv X N G Z w θ W σ tm) (hz : ∀ b, Z b → Z' b) (hm : Mem X Z' w θ m') : Inv X N G Z' w θ W ⟨frzSl r z es σ.s, m'⟩ tm := by
  refine ⟨fun k => ?_, hm, ?_, ?_, inv.size⟩
  · exact SRep.frz hL ((inv.slot k).goes (Goes.wider w hz) (fun _ => rfl) (fun _ _ _ => Iff.rfl))
  · intro k q y hk e he
    obtain ⟨y', hk'⟩ := frz3_gd hk
    obtain ⟨h1, c, h2⟩ := inv.path k q y' hk' e he
    exact ⟨h1, c, boolOf_frz3 h2⟩
  · rcases inv.nog with h | h
    · exact .inl h
    · right
      intro k q y hk
      obtain ⟨y', hk'⟩ := frz3_gd hk
      exact h k q y' hk'
end

section
variable {X : Cx} {N : Nat} {G : Prop} {W : List Nat} {Z Z' : Nat → Prop} {w w' : World} {θ θ' : Nat → Value} {m : Nat → Option Blk} {σ : St}

/-- The kept blocks, where a buffer is frozen. -/
theorem Mem.frz (hm : Mem X Z w θ m) {r T : Nat} (hr64 : 64 ≤ r) {z : List AV} {es : List (List AV)} (hr : m r = some (.buf T z es)) : Mem X (fun b => Z b ∨ bk (θ r) = some b) w θ (updM (frzM r z es m) r none) := by
  have hL : BufL (fun b => Z b ∨ bk (θ r) = some b) w θ r z es := hm.bufL hr (fun _ h => .inl h) (fun _ h => .inr h)
  have some_of : ∀ k, (updM (frzM r z es m) r none k).isSome = true → k ≠ r ∧ (m k).isSome = true := by
    intro k hk
    simp only [updM, frzM] at hk
    split at hk
    · cases hk
    · rename_i hne
      refine ⟨hne, ?_⟩
      cases hmk : m k with
      | none => rw [hmk] at hk; cases hk
      | some _ => rfl
  have notZ : ∀ k b, k ≠ r → (m k).isSome = true → bk (θ k) = some b → ¬ bk (θ r) = some b := fun k b hne hk hb hb' => hne (hm.disj k r b hk (by rw [hr]; rfl) hb hb')
  refine ⟨?_, ?_, ?_, ?_, hm.frame, fun b hb => .inl (hm.zin b hb), ?_, hm.fix⟩
  · intro k blk hk
    have hs := some_of k (by rw [hk]; rfl)
    simp only [updM, hs.1, if_false, frzM] at hk
    cases hmk : m k with
    | none => rw [hmk] at hk; cases hk
    | some b0 =>
      rw [hmk] at hk
      simp only [Option.some.injEq] at hk; subst hk
      have hb := hm.brep k b0 hmk
      cases b0 with
      | dead => exact hb.elim
      | clo f z' es' i off =>
        obtain ⟨v, h1, h2⟩ := hb
        exact ⟨v, h1, h2.step (Goes.wider w (fun _ h => .inl h))⟩
      | ms n ks =>
        obtain ⟨b, E, clock, h1, h2, h3, h4⟩ := hb
        refine ⟨b, E, clock, h1, h2, ?_, h4⟩
        rintro (h | h)
        · exact h3 h
        · exact notZ k b hs.1 hs.2 (by rw [h1]; rfl) h
      | qb T' z' es' =>
        obtain ⟨h0, h1, xs, h2, h3, h4⟩ := hb
        refine ⟨h0, h1, xs, h2, ?_, h4.step (Goes.wider w (fun _ h => .inl h))⟩
        rintro b hb (h | h)
        · exact h3 b hb h
        · exact notZ k b hs.1 hs.2 hb h
      | cells cs =>
        obtain ⟨b, T', vs, h1, h2, h3, h4⟩ := hb
        refine ⟨b, T', vs, h1, h2, ?_, (h4.step (Goes.wider w (fun _ h => .inl h))).frz hL⟩
        rintro (h | h)
        · exact h3 h
        · exact notZ k b hs.1 hs.2 (by rw [h1]; rfl) h
      | buf T' z' es' =>
        obtain ⟨h0, h1, xs, h2, h3, h4⟩ := hb
        refine ⟨h0, h1, xs, h2, ?_, h4.step (Goes.wider w (fun _ h => .inl h))⟩
        rintro b hb (h | h)
        · exact h3 b hb h
        · exact notZ k b hs.1 hs.2 hb h
  · intro k k' b h1 h2 h3 h4
    exact hm.disj k k' b (some_of k h1).2 (some_of k' h2).2 h3 h4
  · intro k b h1 h2; exact hm.own k b (some_of k h1).2 h2
  · rintro b (h | h)
    · exact hm.zlt b h
    · exact hm.lt hr h
  · rintro b (h | h)
    · exact hm.znew b h
    · rcases hm.own r b (by rw [hr]; rfl) h with h | h
      · exact .inr h
      · omega

/-- A buffer is frozen. -/
theorem Inv.frz {tm : Array Value} (inv : Inv X N G Z w θ W σ tm) {r T : Nat} (hr64 : 64 ≤ r) {z : List AV} {es : List (List AV)} (hr : σ.m r = some (.buf T z es)) : Inv X N G (fun b => Z b ∨ bk (θ r) = some b) w θ W (frzS r σ) tm := by
  have : frzS r σ = ⟨frzSl r z es σ.s, updM (frzM r z es σ.m) r none⟩ := by
    simp only [frzS, frzQ, hr, decide_eq_true hr64]
  rw [this]
  exact inv.frzW (inv.mem.bufL hr (fun _ h => .inl h) (fun _ h => .inr h)) (fun _ h => .inl h) (inv.mem.frz hr64 hr)
theorem frzS_no {r : Nat} (h : ∀ T z es, σ.m r ≠ some (.buf T z es)) : frzS r σ = σ := by
  unfold frzS frzQ
  split
  · rename_i hh; exact absurd hh (h _ _ _)
  · rfl
theorem frzS_m {r k : Nat} (hk : k ≠ r) {T : Nat} {z : List AV} {es : List (List AV)} (h : σ.m k = some (.buf T z es)) : (frzS r σ).m k = some (.buf T z es) := by
  unfold frzS frzQ
  split
  · split
    · simp only [updM, hk, if_false, frzM, h, frzB]
    · exact h
  · exact h
theorem frzS_c {r k : Nat} (hk : k ≠ r) {cs : List AV} (h : σ.m k = some (.cells cs)) : ∃ cs', (frzS r σ).m k = some (.cells cs') := by
  unfold frzS frzQ
  split
  · split
    · exact ⟨_, by simp only [updM, hk, if_false, frzM, h, frzB]; rfl⟩
    · exact ⟨_, h⟩
  · exact ⟨_, h⟩

theorem Inv.frzL {tm : Array Value} : ∀ (bs : List Nat) {Z : Nat → Prop} {σ : St}, Inv X N G Z w θ W σ tm → (∀ r ∈ bs, 64 ≤ r) → (∀ r ∈ bs, (∃ T z es, σ.m r = some (.buf T z es)) ∨ ((∀ T z es, σ.m r ≠ some (.buf T z es)) ∧ ∀ b, bk (θ r) = some b → Z b)) →
    Inv X N G (lentZ θ bs Z) w θ W (frzL bs σ) tm
  | [], Z, σ, inv, _, _ => by
    have : lentZ θ [] Z = Z := funext fun b => propext (by simp [lentZ])
    rw [this]; exact inv
  | r :: bs, Z, σ, inv, h64, hl => by
    have h1 : Inv X N G (fun b => Z b ∨ bk (θ r) = some b) w θ W (frzS r σ) tm := by
      rcases hl r (by simp) with ⟨T, z, es, h⟩ | ⟨h, hb⟩
      · exact inv.frz (h64 r (by simp)) h
      · rw [frzS_no h]
        have : (fun b => Z b ∨ bk (θ r) = some b) = Z := funext fun b => propext ⟨fun h => h.elim id (hb b), .inl⟩
        rw [this]; exact inv
    have h2 := Inv.frzL bs h1 (fun k hk => h64 k (by simp [hk])) (fun k hk => by
      by_cases e : k = r
      · subst e
        refine .inr ⟨?_, fun b hb => .inr hb⟩
        intro T z es hh
        rcases hl k (by simp) with ⟨T', z', es', h⟩ | ⟨h, _⟩
        · simp only [frzS, frzQ, h, decide_eq_true (h64 k (by simp)), updM, if_true] at hh
          cases hh
        · rw [frzS_no h] at hh; exact h _ _ _ hh
      · rcases hl k (by simp [hk]) with ⟨T', z', es', h⟩ | ⟨h, hb⟩
        · exact .inl ⟨_, _, _, frzS_m e h⟩
        · refine .inr ⟨?_, fun b hb' => .inl (hb b hb')⟩
          intro T z es hh
          unfold frzS frzQ at hh
          split at hh
          · split at hh
            · simp only [updM, e, if_false, frzM] at hh
              cases hmk : σ.m k with
              | none => rw [hmk] at hh; cases hh
              | some b0 =>
                rw [hmk] at hh
                simp only [Option.some.injEq] at hh
                cases b0 with
                | cells cs => cases hh
                | dead => cases hh
                | qb _ _ _ => cases hh
                | ms _ _ => cases hh
                | clo _ _ _ _ _ => cases hh
                | buf t' z' es' => exact h _ _ _ hmk
            · exact h _ _ _ hh
          · exact h _ _ _ hh)
    have : lentZ θ (r :: bs) Z = lentZ θ bs (fun b => Z b ∨ bk (θ r) = some b) := funext fun b => propext (by
      unfold lentZ
      constructor
      · rintro (h | ⟨k, hk, hb⟩)
        · exact .inl (.inl h)
        · rcases List.mem_cons.1 hk with rfl | hk
          · exact .inl (.inr hb)
          · exact .inr ⟨k, hk, hb⟩
      · rintro ((h | h) | ⟨k, hk, hb⟩)
        · exact .inl h
        · exact .inr ⟨r, by simp, h⟩
        · exact .inr ⟨k, by simp [hk], hb⟩)
    rw [this]; exact h2
/-- Frozen or not, the state is as good. -/
theorem Inv.frzAny {tm : Array Value} (r : Nat) (inv : Inv X N G Z w θ W σ tm) : ∃ Z', (∀ b, Z b → Z' b) ∧ Inv X N G Z' w θ W (frzS r σ) tm := by
  cases hr : σ.m r with
  | none => exact ⟨Z, fun _ h => h, by rw [frzS_no (fun T z es e => by rw [hr] at e; cases e)]; exact inv⟩
  | some b =>
    cases b with
    | dead => exact ⟨Z, fun _ h => h, by rw [frzS_no (fun T z es e => by rw [hr] at e; cases e)]; exact inv⟩
    | qb _ _ _ => exact ⟨Z, fun _ h => h, by rw [frzS_no (fun T z es e => by rw [hr] at e; cases e)]; exact inv⟩
    | ms _ _ => exact ⟨Z, fun _ h => h, by rw [frzS_no (fun T z es e => by rw [hr] at e; cases e)]; exact inv⟩
    | clo _ _ _ _ _ => exact ⟨Z, fun _ h => h, by rw [frzS_no (fun T z es e => by rw [hr] at e; cases e)]; exact inv⟩
    | cells cs => exact ⟨Z, fun _ h => h, by rw [frzS_no (fun T z es e => by rw [hr] at e; cases e)]; exact inv⟩
    | buf T z es =>
      by_cases h64 : 64 ≤ r
      · exact ⟨_, fun _ h => .inl h, inv.frz h64 hr⟩
      · refine ⟨Z, fun _ h => h, ?_⟩
        have : frzS r σ = σ := by simp only [frzS, frzQ, hr, decide_eq_false h64]
        rw [this]; exact inv
theorem Inv.frzLAny {tm : Array Value} : ∀ (bs : List Nat) {Z : Nat → Prop} {σ : St}, Inv X N G Z w θ W σ tm → ∃ Z', (∀ b, Z b → Z' b) ∧ Inv X N G Z' w θ W (Ev.frzL bs σ) tm
  | [], Z, σ, inv => ⟨Z, fun _ h => h, inv⟩
  | r :: bs, Z, σ, inv => by
    obtain ⟨Z1, h1, inv1⟩ := inv.frzAny r
    obtain ⟨Z2, h2, inv2⟩ := Inv.frzLAny bs inv1
    exact ⟨Z2, fun b hb => h2 b (h1 b hb), inv2⟩
end
end Go.Ev
