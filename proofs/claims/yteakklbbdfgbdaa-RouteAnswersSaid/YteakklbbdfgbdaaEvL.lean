/- A part of the proof: symbolic evaluation of the program's functions, proved sound against the model; no condition. -/
/-
  The framework 'Ev', part L: operations that may change places; regions whose order is drawn.
  Conditions: none; a text of lemmas.
-/
import Derived.Test.YteakklbbdfgbdaaEvJ
namespace Go.Ev
open Go Go.RowKit
set_option linter.unusedVariables false
set_option linter.unusedSectionVars false
set_option linter.unusedSimpArgs false

section
variable {Φ : Nat → Option Ctr} {σ σ' : St} {p : List (Nat × Bool)}

theorem ar_agr {x : A} (h : ∀ k ∈ slotsA x, σ'.s k = σ.s k) : ar σ' x = ar σ x := by
  cases x with
  | t n => exact h n (by simp [slotsA])
  | c v => rfl
theorem av_agr {x : A} (h : ∀ k ∈ slotsA x, σ'.s k = σ.s k) : av σ' p x = av σ p x := by simp only [av, ar_agr h]
theorem avs_agr : ∀ {xs : List A}, (∀ k ∈ slotsL xs, σ'.s k = σ.s k) → avs σ' p xs = avs σ p xs
  | [], _ => rfl
  | x :: xs, h => by
    simp only [slotsL, List.mem_append] at h
    simp only [avs, av_agr (p := p) (fun k hk => h k (.inl hk)), avs_agr (fun k hk => h k (.inr hk))]
theorem fillA_agr : ∀ {ps : List (Nat × Nat × A)} {cs : List AV}, (∀ k ∈ slotsF ps, σ'.s k = σ.s k) → fillA σ' p cs ps = fillA σ p cs ps
  | [], _, _ => rfl
  | (off, n, x) :: ps, cs, h => by
    simp only [slotsF, List.mem_append] at h
    simp only [fillA, av_agr (p := p) (fun k hk => h k (.inl hk))]
    split
    · split
      · split
        · exact fillA_agr (fun k hk => h k (.inr hk))
        · rfl
      · rfl
    · rfl
theorem fillS_agr {n : Nat} : ∀ {ps : List (Nat × A)} {es : List (List AV)}, (∀ k ∈ slotsG ps, σ'.s k = σ.s k) → fillS σ' p n es ps = fillS σ p n es ps
  | [], _, _ => rfl
  | (i, x) :: ps, es, h => by
    simp only [slotsG, List.mem_append] at h
    simp only [fillS, av_agr (p := p) (fun k hk => h k (.inl hk))]
    split
    · split
      · split
        · exact fillS_agr (fun k hk => h k (.inr hk))
        · rfl
      · rfl
    · rfl

theorem loadR_agr {m m' : Nat → Option Blk} {n : Nat} {ag : Bool} {v : AV} {r : Res} (h : loadR m n ag v = some r) (hm : ∀ b ∈ r.tch, m' b = m b) : loadR m' n ag v = some r := by
  unfold loadR at h ⊢
  split at h
  · rename_i r0 o
    split at h <;> try (cases h; done)
    rename_i cs hcs
    split at h <;> try (cases h; done)
    rename_i x hx
    simp only [Option.some.injEq] at h; subst h
    rw [hm r0 (by simp), hcs]
    simp only [hx]
  · exact h
  · rename_i r0 sz i o
    split at h <;> try (cases h; done)
    all_goals rename_i T z es hcs
    all_goals (split at h <;> try (cases h; done))
    all_goals rename_i x hz hx
    all_goals (simp only [Option.some.injEq] at h; subst h)
    all_goals rw [hm r0 (by simp), hcs]
    all_goals simp only [hx, hz]
  · cases h
theorem storeR_agr {m m' : Nat → Option Blk} {n : Nat} {x v : AV} {r : Res} (h : storeR m n x v = some r) (hm : ∀ b ∈ r.tch, m' b = m b) : storeR m' n x v = some r := by
  unfold storeR at h ⊢
  split at h
  · rename_i vv r0 o
    split at h <;> try (cases h; done)
    rename_i vs cs hvs hcs
    split at h <;> try (cases h; done)
    rename_i hl
    simp only [Option.some.injEq] at h; subst h
    simp only [hm r0 (by simp), hcs, hvs, if_pos hl]
  · rename_i vv r0 sz i o
    split at h <;> try (cases h; done)
    rename_i vs T z es hvs hcs
    split at h <;> try (cases h; done)
    rename_i hl
    simp only [Option.some.injEq] at h; subst h
    simp only [hm r0 (by simp), hcs, hvs, hl]
  · cases h
section
variable {m m' : Nat → Option Blk}
theorem lendA_agr {x y : AV} {bs : List Nat} (h : lendA m x = some (y, bs)) (hm : ∀ b ∈ bs, m' b = m b) : lendA m' x = some (y, bs) := by
  unfold lendA at h ⊢
  split at h
  · rename_i r a b c
    have : m' r = m r := by
      unfold lendB at h
      split at h <;> try (cases h; done)
      simp only [Option.some.injEq, Prod.mk.injEq] at h
      exact hm r (by rw [← h.2]; simp)
    simp only [this]; exact h
  · rename_i r sz lo hi
    have : m' r = m r := by
      unfold lendP at h
      split at h <;> try (cases h; done)
      split at h <;> try (cases h; done)
      simp only [Option.some.injEq, Prod.mk.injEq] at h
      exact hm r (by rw [← h.2]; simp)
    simp only [this]; exact h
  all_goals exact h
theorem consL_agr {x x' : Option (AV × List Nat)} {y y' : Option (List AV × List Nat)} {q : List AV × List Nat} (h : consL x y = some q) (h1 : ∀ v b, x = some (v, b) → (∀ k ∈ b, k ∈ q.2) → x' = some (v, b)) (h2 : ∀ v b, y = some (v, b) → (∀ k ∈ b, k ∈ q.2) → y' = some (v, b)) : consL x' y' = some q := by
  obtain ⟨ys, bs⟩ := q
  obtain ⟨v, b, vs, b', rfl, rfl, rfl, rfl⟩ := consL_some h
  rw [h1 v b rfl (fun k hk => by simp [hk]), h2 vs b' rfl (fun k hk => by simp [hk])]
  rfl
theorem lendC_agr : ∀ {xs ys : List AV} {bs : List Nat}, lendC m xs = some (ys, bs) → (∀ b ∈ bs, m' b = m b) → lendC m' xs = some (ys, bs)
  | [], _, _, h, _ => h
  | x :: xs, ys, bs, h, hm => consL_agr (by simpa only [lendC] using h) (fun v b e hb => lendA_agr e fun k hk => hm k (hb k hk)) (fun v b e hb => lendC_agr e fun k hk => hm k (hb k hk))
theorem lend1_agr {x y : AV} {bs : List Nat} (h : lend1 m x = some (y, bs)) (hm : ∀ b ∈ bs, m' b = m b) : lend1 m' x = some (y, bs) := by
  cases x with
  | agg cs =>
    simp only [lend1] at h ⊢
    cases hl : lendC m cs with
    | none => rw [hl] at h; cases h
    | some q =>
      obtain ⟨ys, b⟩ := q
      rw [hl] at h
      simp only [aggL, Option.some.injEq, Prod.mk.injEq] at h
      obtain ⟨rfl, rfl⟩ := h
      rw [lendC_agr hl hm]; rfl
  | _ => simp only [lend1] at h ⊢; exact lendA_agr h hm
theorem lends_agr : ∀ {xs ys : List AV} {bs : List Nat}, lends m xs = some (ys, bs) → (∀ b ∈ bs, m' b = m b) → lends m' xs = some (ys, bs)
  | [], _, _, h, _ => h
  | x :: xs, ys, bs, h, hm => consL_agr (by simpa only [lends] using h) (fun v b e hb => lend1_agr e fun k hk => hm k (hb k hk)) (fun v b e hb => lends_agr e fun k hk => hm k (hb k hk))
end
theorem callR_agr {m m' : Nat → Option Blk} {C : Option Ctr} {vs : List AV} {r : Res} (h : callR m C vs = some r) (hm : ∀ b ∈ r.tch, m' b = m b) : callR m' C vs = some r := by
  unfold callR at h ⊢
  split at h
  · rename_i fn
    cases hl : lends m vs with
    | none => rw [hl] at h; cases h
    | some q =>
      obtain ⟨ys, bs⟩ := q
      rw [hl] at h
      have key : r.tch = bs := by
        simp only [callN] at h
        unfold callP at h
        split at h <;> try (cases h; done)
        split at h <;> try (cases h; done)
        simp only [Option.some.injEq] at h; subst h; rfl
      rw [lends_agr hl (fun b hb => hm b (by rw [key]; exact hb))]
      exact h
  · rename_i fn
    split at h <;> try (cases h; done)
    rename_i r0 vs
    unfold callC at h
    split at h <;> try (cases h; done)
    rename_i cs h1
    cases hl : lends m vs with
    | none => rw [hl] at h; cases h
    | some q =>
      obtain ⟨ys, bs⟩ := q
      rw [hl] at h
      have key : r.tch = r0 :: bs := by
        simp only [callB] at h
        split at h <;> try (cases h; done)
        unfold callS at h
        split at h <;> try (cases h; done)
        split at h <;> try (cases h; done)
        simp only [Option.some.injEq] at h; subst h; rfl
      simp only [hm r0 (by simp [key]), h1, callC]
      rw [lends_agr hl (fun b hb => hm b (by rw [key]; simp [hb]))]
      exact h
  · cases h

theorem callE_agr {d : Nat} {m m' : Nat → Option Blk} {C : Option Ctr} {vs : List AV} {r : Res} (h : callE d m C vs = some r) (hm : ∀ b ∈ r.tch, m' b = m b) : callE d m' C vs = some r := by
  unfold callE at h ⊢
  split at h
  · cases hl : lends m vs with
    | none => rw [hl] at h; cases h
    | some q =>
      obtain ⟨ys, bs⟩ := q
      rw [hl] at h
      have key : r.tch = bs := by
        simp only [ownW] at h
        split at h <;> try (cases h; done)
        simp only [Option.some.injEq] at h; subst h; rfl
      rw [lends_agr hl (fun b hb => hm b (by rw [key]; exact hb))]
      exact h
  · exact callR_agr h hm
  · cases h
theorem ysOf_agr {m m' : Nat → Option Blk} {k : Nat} {y : AV} {ys : List (List AV)} {t : List Nat} (h : ysOf m k y = some (ys, t)) (hm : ∀ b ∈ t, m' b = m b) : ysOf m' k y = some (ys, t) := by
  unfold ysOf at h ⊢
  split at h
  · rename_i r sz lo hi
    have hmr : m' r = m r := by
      unfold ysP at h
      split at h <;> try (cases h; done)
      split at h <;> try (cases h; done)
      simp only [Option.some.injEq, Prod.mk.injEq] at h
      exact hm r (by rw [← h.2]; simp)
    simp only [hmr]
    exact h
  · exact h
  · exact h
  · rename_i r _ _ _
    have hmr : m' r = m r := by
      split at h <;> try (cases h; done)
      split at h <;> try (cases h; done)
      simp only [Option.some.injEq, Prod.mk.injEq] at h
      exact hm r (by rw [← h.2]; simp)
    simp only [hmr]
    exact h
  · cases h
theorem cpR_agr {m m' : Nat → Option Blk} {sz : Nat} {x y : AV} {r : Res} (h : cpR m sz x y = some r) (hm : ∀ b ∈ r.tch, m' b = m b) : cpR m' sz x y = some r := by
  obtain ⟨r0, q1, q2, q3, T, z, es, ys, t', rfl, h1, h2, rfl, hz1, rfl⟩ := cpR_inv h
  simp only [cpR]
  rw [hm r0 (by simp), h1, ysOf_agr h2 (fun b hb => hm b (by simp [hb]))]
  simp only [cpB, hz1, and_self, decide_true]
theorem iaddrSM_agr {m m' : Nat → Option Blk} {zero : List AV} {x i : AV} {r : Res} (h : iaddrSM m zero x i = some r) (hm : ∀ b ∈ r.tch, m' b = m b) : iaddrSM m' zero x i = some r := by
  unfold iaddrSM at h ⊢
  split at h
  · rename_i r0 _ _ _ k n
    have hmr : m' r0 = m r0 := by
      unfold iasV at h
      split at h <;> try (cases h; done)
      all_goals (split at h <;> try (cases h; done))
      all_goals (simp only [Option.some.injEq] at h; subst h)
      all_goals exact hm r0 (by simp)
    simp only [hmr]; exact h
  · rename_i r0 _ _ _ k n
    have hmr : m' r0 = m r0 := by
      unfold iasP at h
      split at h <;> try (cases h; done)
      split at h <;> try (cases h; done)
      simp only [Option.some.injEq] at h; subst h
      exact hm r0 (by simp)
    simp only [hmr]; exact h
  · exact h
theorem b2sR_agr {m m' : Nat → Option Blk} {x : AV} {r : Res} (h : b2sR m x = some r) (hm : ∀ b ∈ r.tch, m' b = m b) : b2sR m' x = some r := by
  unfold b2sR at h ⊢
  split at h
  · exact h
  · exact h
  · rename_i r0 _ _ _
    have hmr : m' r0 = m r0 := by
      unfold b2sB at h
      split at h <;> try (cases h; done)
      split at h <;> try (cases h; done)
      simp only [Option.some.injEq] at h; subst h
      exact hm r0 (by simp)
    simp only [hmr]; exact h
  · rename_i r0 _ _ _
    have hmr : m' r0 = m r0 := by
      unfold b2sP at h
      split at h <;> try (cases h; done)
      split at h <;> try (cases h; done)
      simp only [Option.some.injEq] at h; subst h
      exact hm r0 (by simp)
    simp only [hmr]; exact h
  · cases h
theorem nilR_agr {m m' : Nat → Option Blk} {ng : Bool} {x : AV} {r : Res} (h : nilR m ng x = some r) (hm : ∀ b ∈ r.tch, m' b = m b) : nilR m' ng x = some r := by
  unfold nilR at h ⊢
  split at h
  · exact h
  · exact h
  · rename_i r0 _ _ _
    have hmr : m' r0 = m r0 := by
      unfold nilV at h
      split at h <;> try (cases h; done)
      split at h <;> try (cases h; done)
      simp only [Option.some.injEq] at h; subst h
      exact hm r0 (by simp)
    simp only [hmr]; exact h
  · cases h
theorem sliceR_agr {m m' : Nat → Option Blk} {sz : Nat} {x : AV} {lo hi : Option AV} {r : Res} (h : sliceR m sz x lo hi = some r) (hm : ∀ b ∈ r.tch, m' b = m b) : sliceR m' sz x lo hi = some r := by
  unfold sliceR at h ⊢
  split at h
  · exact h
  · exact h
  · rename_i r0 _ _ _
    have hmr : m' r0 = m r0 := by
      unfold slB at h
      split at h <;> try (cases h; done)
      split at h <;> try (cases h; done)
      simp only [Option.some.injEq] at h; subst h
      exact hm r0 (by simp)
    simp only [hmr]; exact h
  · rename_i r0 _ _ _
    split at h <;> try (cases h; done)
    rename_i hsz
    have hmr : m' r0 = m r0 := by
      unfold slP at h
      split at h <;> try (cases h; done)
      split at h <;> try (cases h; done)
      simp only [Option.some.injEq] at h; subst h
      exact hm r0 (by simp)
    simp only [hmr, hsz]; exact h
  · cases h
theorem boundA_agr {x : Option A} (h : ∀ k ∈ slotsO x, σ'.s k = σ.s k) : boundA σ' p x = boundA σ p x := by
  cases x with
  | none => rfl
  | some x => simp only [boundA]; rw [av_agr h]
theorem baseOf_agr {m m' : Nat → Option Blk} {e k d : Nat} {x : AV} {i : Nat} {es : List (List AV)} {t : List Nat} (h : baseOf m e k d x = some (i, es, t)) (hm : ∀ b ∈ t, m' b = m b) : baseOf m' e k d x = some (i, es, t) := by
  unfold baseOf at h ⊢
  split at h
  · exact h
  · rename_i r _ _ _
    have hmr : m' r = m r := by
      split at h <;> try (cases h; done)
      split at h <;> try (cases h; done)
      simp only [Option.some.injEq, Prod.mk.injEq] at h
      exact hm r (by rw [← h.2.2]; simp)
    simp only [hmr]
    exact h
  · cases h
theorem appR_agr {m m' : Nat → Option Blk} {e b d : Nat} {z : List AV} {x y : AV} {r : Res} (h : appR m e b z d x y = some r) (hm : ∀ b ∈ r.tch, m' b = m b) : appR m' e b z d x y = some r := by
  unfold appR at h ⊢
  split at h <;> try (cases h; done)
  rename_i i es t ys t' h1 h2
  simp only [Option.some.injEq] at h; subst h
  rw [baseOf_agr h1 (fun b hb => hm b (by simp [hb])), ysOf_agr h2 (fun b hb => hm b (by simp [hb]))]

theorem isQ_vw {m m' : Nat → Option Blk} {r a b c : Nat} (h : m' r = m r) : isQ m' (.vw r a b c) = isQ m (.vw r a b c) := by
  simp only [isQ, h]
theorem isQ_nvw {m m' : Nat → Option Blk} {x : AV} (h : ∀ r a b c, x ≠ .vw r a b c) : isQ m' x = isQ m x := by
  cases x <;> first | rfl | exact absurd rfl (h _ _ _ _)
theorem appQR_agr {m m' : Nat → Option Blk} {e b d : Nat} {z : List AV} {x y : AV} {r : Res} (h : appQR m e b z d x y = some r) (hm : ∀ b ∈ r.tch, m' b = m b) : appQR m' e b z d x y = some r := by
  unfold appQR at h ⊢
  split at h
  · rename_i r0 hq
    obtain ⟨_, _, _, _, _, _, rfl, hr0⟩ := isQ_some hq
    unfold appQ at h
    split at h <;> try (cases h; done)
    rename_i t1 z' es ys t2 hb hys
    split at h <;> try (cases h; done)
    rename_i hc
    simp only [Option.some.injEq] at h; subst h
    have e1 : m' r0 = m r0 := hm r0 (by simp)
    have e2 : ysOf m' z.length y = some (ys, t2) := ysOf_agr hys (fun b hb => hm b (by simp [hb]))
    rw [isQ_vw e1, hq]
    simp only [e1, hb, e2, appQ, hc]
  · rename_i hq
    have key : isQ m' x = none := by
      by_cases hx : ∃ r0 a b c, x = .vw r0 a b c
      · obtain ⟨r0, a, b, c, rfl⟩ := hx
        rw [isQ_vw ?_, hq]
        unfold appR at h
        split at h <;> try (cases h; done)
        rename_i i es t ys t' hb hys
        simp only [Option.some.injEq] at h; subst h
        refine hm r0 ?_
        unfold baseOf at hb
        simp only at hb
        split at hb <;> try (cases hb; done)
        split at hb <;> try (cases hb; done)
        simp only [Option.some.injEq, Prod.mk.injEq] at hb
        obtain ⟨_, _, rfl⟩ := hb
        simp
      · rw [isQ_nvw (m := m) (fun r a b c e => hx ⟨r, a, b, c, e⟩), hq]
    rw [key]
    exact appR_agr h hm
theorem sliceO_tch {m : Nat → Option Blk} {sz r0 a b c : Nat} {lo hi : Option (Option AV)} {r : Res} (h : sliceO m sz (some (.vw r0 a b c)) lo hi = some r) : r0 ∈ r.tch := by
  cases lo with
  | none => cases h
  | some lo =>
    cases hi with
    | none => cases h
    | some hi =>
      have h : slB r0 sz lo hi (m r0) = some r := h
      unfold slB at h
      split at h <;> try (cases h; done)
      split at h <;> try (cases h; done)
      simp only [Option.some.injEq] at h; subst h
      simp
theorem sliceQ_agr {m m' : Nat → Option Blk} {sz : Nat} {x : Option AV} {lo hi : Option (Option AV)} {r : Res} (h : sliceQ m sz x lo hi = some r) (hm : ∀ b ∈ r.tch, m' b = m b) : sliceQ m' sz x lo hi = some r := by
  unfold sliceQ at h ⊢
  split at h <;> try (cases h; done)
  rename_i v
  try simp only
  split at h
  · rename_i r0 hq
    obtain ⟨_, _, _, _, _, _, rfl, hr0⟩ := isQ_some hq
    unfold slQ at h
    split at h <;> try (cases h; done)
    rename_i lo0 t z es hlo hhi hb
    split at h <;> try (cases h; done)
    rename_i l h1 h2
    simp only [Option.some.injEq] at h; subst h
    have e1 : m' r0 = m r0 := hm r0 (by simp)
    rw [isQ_vw e1, hq]
    simp only [e1, hb, slQ, h1, h2]
  · rename_i hq
    have key : isQ m' v = none := by
      by_cases hx : ∃ r0 a b c, v = .vw r0 a b c
      · obtain ⟨r0, a, b, c, rfl⟩ := hx
        rw [isQ_vw (hm r0 (sliceO_tch h)), hq]
      · rw [isQ_nvw (m := m) (fun r a b c e => hx ⟨r, a, b, c, e⟩), hq]
    rw [key]
    simp only
    unfold sliceO at h ⊢
    split at h <;> try (cases h; done)
    exact sliceR_agr h hm
theorem cloV_agr {m m' : Nat → Option Blk} {fs : List Nat} {r0 : Nat} {vs : List AV} {r : Res} (h : cloV Φ m fs r0 vs (m r0) = some r) (hm : ∀ b ∈ r.tch, m' b = m b) : cloV Φ m' fs r0 vs (m' r0) = some r := by
  unfold cloV at h
  split at h <;> try (cases h; done)
  rename_i f z es i off hb
  split at h <;> try (cases h; done)
  rename_i hc
  unfold tchR at h
  split at h <;> try (cases h; done)
  rename_i pre post v t hcr
  simp only [Option.some.injEq] at h; subst h
  have e1 : m' r0 = m r0 := hm r0 (by simp)
  have e2 := callR_agr (m' := m') hcr (fun b hb => hm b (by simp only at hb; simp [hb]))
  rw [e1, hb]
  simp only [cloV, hc, e2, tchR]
theorem lookR_agr {m m' : Nat → Option Blk} {n : Nat} {x i : AV} {r : Res} (h : lookR m n x i = some r) (hm : ∀ b ∈ r.tch, m' b = m b) : lookR m' n x i = some r := by
  unfold lookR at h ⊢
  split at h <;> try (cases h; done)
  rename_i r0 _ _ _
  try simp only
  unfold lookM1 at h
  split at h <;> try (cases h; done)
  rename_i n' ks hb
  split at h <;> try (cases h; done)
  rename_i k hn hk
  simp only [Option.some.injEq] at h; subst h
  have e1 : m' r0 = m r0 := hm r0 (by simp)
  rw [e1, hb]
  simp only [lookM1, hn, hk]
theorem putR_agr {m m' : Nat → Option Blk} {n : Nat} {x i : AV} {r : Res} (h : putR m n x i = some r) (hm : ∀ b ∈ r.tch, m' b = m b) : putR m' n x i = some r := by
  unfold putR at h ⊢
  split at h <;> try (cases h; done)
  rename_i r0 _ _ _
  try simp only
  unfold putM1 at h
  split at h <;> try (cases h; done)
  rename_i n' ks hb
  split at h <;> try (cases h; done)
  rename_i k hn hk
  simp only [Option.some.injEq] at h; subst h
  have e1 : m' r0 = m r0 := hm r0 (by simp)
  rw [e1, hb]
  simp only [putM1, hn, hk]
theorem appZR_agr {m m' : Nat → Option Blk} {e b d : Nat} {z : List AV} {x y : AV} {r : Res} (h : appZR m e b z d x y = some r) (hm : ∀ b ∈ r.tch, m' b = m b) : appZR m' e b z d x y = some r := by
  unfold appZR at h ⊢
  split at h <;> try (cases h; done)
  rename_i i es t kv n h1
  simp only [Option.some.injEq] at h; subst h
  rw [baseOf_agr h1 (fun b hb => hm b (by simp [hb]))]

theorem appDR_agr {m m' : Nat → Option Blk} {e b d : Nat} {z : List AV} {x y : AV} {r : Res} (h : appDR m e b z d x y = some r) (hm : ∀ b ∈ r.tch, m' b = m b) : appDR m' e b z d x y = some r := by
  unfold appDR at h ⊢
  split at h
  · exact appR_agr h hm
  · split at h <;> try (cases h; done)
    rename_i i es t ys t' h0 h1 h2
    simp only [Option.some.injEq] at h; subst h
    rw [h0, baseOf_agr h1 (fun b hb => hm b (by simp [hb])), ysOf_agr h2 (fun b hb => hm b (by simp [hb]))]
  · cases h

theorem evOp_agr {io : IOp} {d : Nat} {r : Res} (h : evOp Φ io d p σ = some r) (hs : ∀ k ∈ io.reads, σ'.s k = σ.s k) (hm : ∀ b ∈ r.tch, σ'.m b = σ.m b) : evOp Φ io d p σ' = some r := by
  cases io <;> simp only [IOp.reads, List.mem_append] at hs <;> simp only [evOp] at h ⊢ <;> try (cases h; done)
  case mov x => rw [av_agr hs]; exact h
  case not x => rw [av_agr hs]; exact h
  case neg x => rw [av_agr hs]; exact h
  case conv k x => rw [av_agr hs]; exact h
  case extract k x => rw [av_agr hs]; exact h
  case nilchk x => rw [av_agr hs]; exact h
  case pick c x y =>
    split at h <;> try (cases h; done)
    rename_i k hk
    rw [av_agr (fun k hk => hs k (.inl hk)), av_agr (fun k hk => hs k (.inr (.inl hk))), av_agr (fun k hk => hs k (.inr (.inr hk)))]
    exact h
  case arith op x y => rw [av_agr (fun k hk => hs k (.inl hk)), av_agr (fun k hk => hs k (.inr hk))]; exact h
  case cmp op ty x y => rw [av_agr (fun k hk => hs k (.inl hk)), av_agr (fun k hk => hs k (.inr hk))]; exact h
  case eqa ng sh x y => rw [av_agr (fun k hk => hs k (.inl hk)), av_agr (fun k hk => hs k (.inr hk))]; exact h
  case len ty x =>
    rw [av_agr hs]
    obtain ⟨y, hy, h⟩ := bind1_some h
    rw [hy]
    show lenM σ'.m ty y = some r
    rcases lenM_or σ.m ty y with ⟨r0, a0, b0, c0, rfl⟩ | heq
    · simp only [lenM] at h ⊢
      have key : σ'.m r0 = σ.m r0 := by
        unfold lenV at h
        split at h <;> try (cases h; done)
        all_goals (split at h <;> try (cases h; done))
        all_goals (simp only [Option.some.injEq] at h; subst h)
        all_goals exact hm r0 (by simp)
      rw [key]; exact h
    · rcases lenM_or σ'.m ty y with ⟨r0, a0, b0, c0, rfl⟩ | heq'
      · simp only [lenM] at h ⊢
        have key : σ'.m r0 = σ.m r0 := by
          unfold lenV at h
          split at h <;> try (cases h; done)
          all_goals (split at h <;> try (cases h; done))
          all_goals (simp only [Option.some.injEq] at h; subst h)
          all_goals exact hm r0 (by simp)
        rw [key]; exact h
      · rw [heq'] ; rw [heq] at h; exact h
  case minmax mx xs => rw [avs_agr hs]; exact h
  case faddr off x => rw [av_agr hs]; exact h
  case iaddrS zr x i =>
    rw [av_agr (fun k hk => hs k (.inl hk)), av_agr (fun k hk => hs k (.inr hk))]
    obtain ⟨y, z, hy, hz, h⟩ := bind2_some h
    rw [hy, hz]
    exact iaddrSM_agr h hm
  case iaddrA n sz x i => rw [av_agr (fun k hk => hs k (.inl hk)), av_agr (fun k hk => hs k (.inr hk))]; exact h
  case load n ag x =>
    rw [av_agr hs]
    obtain ⟨v, hv, h⟩ := bind1_some h
    rw [hv]
    exact loadR_agr h hm
  case store n x v =>
    rw [av_agr (fun k hk => hs k (.inl hk)), av_agr (fun k hk => hs k (.inr hk))]
    obtain ⟨y, z, hy, hz, h⟩ := bind2_some h
    rw [hy, hz]
    exact storeR_agr h hm
  case alloc z => exact h
  case box n x => rw [av_agr hs]; exact h
  case build z ps => rw [fillA_agr hs]; exact h
  case bslice n z ps => rw [fillS_agr hs]; exact h
  case append e b z x y =>
    rw [av_agr (fun k hk => hs k (.inl hk)), av_agr (fun k hk => hs k (.inr hk))]
    obtain ⟨vx, vy, hx, hy, h⟩ := bind2_some h
    rw [hx, hy]
    exact appQR_agr h hm
  case appZ e b z x y =>
    rw [av_agr (fun k hk => hs k (.inl hk)), av_agr (fun k hk => hs k (.inr hk))]
    obtain ⟨vx, vy, hx, hy, h⟩ := bind2_some h
    rw [hx, hy]
    exact appZR_agr h hm
  case appD e b z x y =>
    rw [av_agr (fun k hk => hs k (.inl hk)), av_agr (fun k hk => hs k (.inr hk))]
    obtain ⟨vx, vy, hx, hy, h⟩ := bind2_some h
    rw [hx, hy]
    exact appDR_agr h hm
  case call f xs =>
    rw [avs_agr hs]
    split at h <;> try (cases h; done)
    exact callE_agr h hm
  case copy sz x y =>
    rw [av_agr (fun k hk => hs k (.inl hk)), av_agr (fun k hk => hs k (.inr hk))]
    obtain ⟨vx, vy, hx, hy, h⟩ := bind2_some h
    rw [hx, hy]
    exact cpR_agr h hm
  case callv fs x xs =>
    rw [av_agr (fun k hk => hs k (.inl hk)), avs_agr (fun k hk => hs k (.inr hk))]
    split at h <;> try (cases h; done)
    · split at h <;> try (cases h; done)
      exact callR_agr h hm
    · exact cloV_agr h hm
  case mkmap n => exact h
  case mkclo f x => rw [av_agr hs]; exact h
  case mlook n x i =>
    rw [av_agr (fun k hk => hs k (.inl hk)), av_agr (fun k hk => hs k (.inr hk))]
    obtain ⟨vx, vy, hx, hy, h⟩ := bind2_some h
    rw [hx, hy]
    exact lookR_agr h hm
  case mput n x i =>
    rw [av_agr (fun k hk => hs k (.inl hk)), av_agr (fun k hk => hs k (.inr hk))]
    obtain ⟨vx, vy, hx, hy, h⟩ := bind2_some h
    rw [hx, hy]
    exact putR_agr h hm
  case bsliceO e n z ps => rw [fillS_agr hs]; exact h
  case eqnil ng x =>
    rw [av_agr hs]
    obtain ⟨v, hv, h⟩ := bind1_some h
    rw [hv]
    exact nilR_agr h hm
  case shl n x => rw [av_agr hs]; exact h
  case shr n x => rw [av_agr hs]; exact h
  case b2s x =>
    rw [av_agr hs]
    obtain ⟨v, hv, h⟩ := bind1_some h
    rw [hv]
    exact b2sR_agr h hm
  case s2b x => rw [av_agr hs]; exact h
  case idxS x i => rw [av_agr (fun k hk => hs k (.inl hk)), av_agr (fun k hk => hs k (.inr hk))]; exact h
  case idxV n s ag x i => rw [av_agr (fun k hk => hs k (.inl hk))]; exact h
  case slice sz x l u =>
    rw [av_agr (fun k hk => hs k (.inl hk)), boundA_agr (fun k hk => hs k (.inr (.inl hk))), boundA_agr (fun k hk => hs k (.inr (.inr hk)))]
    exact sliceQ_agr h hm
  case mkF b z x y => rw [av_agr (fun k hk => hs k (.inl hk)), av_agr (fun k hk => hs k (.inr hk))]; exact h
  case mkslice e b z x y => rw [av_agr (fun k hk => hs k (.inl hk)), av_agr (fun k hk => hs k (.inr hk))]; exact h
  case fld off n ag x => rw [av_agr hs]; exact h

theorem pathP_agr {s s' : Nat → AV} : ∀ {p : List (Nat × Bool)}, (∀ e ∈ p, s' e.1 = s e.1) → pathP s' p = pathP s p
  | [], _ => rfl
  | (g, b) :: p, h => by
    simp only [pathP, h (g, b) (by simp), pathP_agr (fun e he => h e (List.mem_cons_of_mem _ he))]
theorem pathB_agr {s s' : Nat → AV} : ∀ {p : List (Nat × Bool)}, (∀ e ∈ p, s' e.1 = s e.1) → pathB s' p = pathB s p
  | [], _ => rfl
  | (g, b) :: p, h => by
    simp only [pathB, h (g, b) (by simp), pathB_agr (fun e he => h e (List.mem_cons_of_mem _ he))]
theorem guardL_agr {s s' : Nat → AV} (h : ∀ e ∈ p, s' e.1 = s e.1) : ∀ {l : List Prop}, guardL s' p l = guardL s p l
  | [] => rfl
  | q :: l => by simp only [guardL, pathP_agr h, guardL_agr h]
theorem mergeU_agr {c : Bool} {m m' : Nat → Option Blk} : ∀ {us us' : List (Nat × Blk)}, mergeU c m us = some us' → (∀ b ∈ us'.map (·.1), m' b = m b) → mergeU c m' us = some us'
  | [], us', h, _ => h
  | (r, .buf t z es) :: us, us', h, hm => by simp [mergeU] at h
  | (r, .cells cs) :: us, us', h, hm => by
    simp only [mergeU] at h ⊢
    split at h <;> try (cases h; done)
    rename_i cs' us'' h1 h2
    split at h <;> try (cases h; done)
    rename_i cs'' h3
    simp only [Option.some.injEq] at h; subst h
    rw [hm r (by simp), h1, mergeU_agr h2 (fun b hb => hm b (by simp at hb ⊢; exact .inr hb))]
    simp only [h3]

theorem evG_agr {o : RO} {r : Res} (h : evG Φ o σ = some r) (hs : ∀ k ∈ o.reads, σ'.s k = σ.s k) (hp : ∀ k ∈ pslots r.val, σ'.s k = σ.s k) (hm : ∀ b ∈ r.tch, σ'.m b = σ.m b) (hu : ∀ b ∈ r.ups.map (·.1), σ'.m b = σ.m b) : evG Φ o σ' = some r := by
  obtain ⟨dst, op, guard, af⟩ := o
  cases guard with
  | none =>
    simp only [RO.reads, List.nil_append] at hs
    exact evOp_agr h hs hm
  | some gb =>
    obtain ⟨g, b⟩ := gb
    simp only [RO.reads, List.cons_append, List.nil_append, List.mem_cons] at hs
    simp only [evG] at h ⊢
    rw [hs g (.inl rfl)]
    split at h <;> try (cases h; done)
    rename_i q hq
    obtain ⟨pre, post, v, us, t, us', hop, hmer, rfl⟩ := guardR_some h
    have hpa : ∀ e ∈ q, σ'.s e.1 = σ.s e.1 := fun e he => hp e.1 (by simp only [pslots, List.mem_map]; exact ⟨e, he, rfl⟩)
    have hop' := evOp_agr (σ' := σ') hop (fun k hk => hs k (.inr hk)) hm
    rw [hop] at h
    rw [hop']
    cases us with
    | nil =>
      simp only [guardR] at h ⊢
      rw [guardL_agr hpa]
      exact h
    | cons u us =>
      simp only [guardR] at h ⊢
      rw [guardL_agr hpa, pathB_agr hpa]
      split at h <;> try (cases h; done)
      rename_i e us'' hus
      simp only [Option.some.injEq, Res.mk.injEq] at h
      obtain ⟨_, _, _, rfl, _⟩ := h
      rw [mergeU_agr hus hu]

end

/-! ### The state behind an operation -/
/-- Nothing in a state refers to block b. -/
structure Clean (b : Nat) (σ : St) : Prop where
  s : killS b σ.s = σ.s
  m : killM b σ.m = σ.m
def updO (s : Nat → AV) : Option Nat → AV → Nat → AV
  | none, _ => s
  | some d, v => upd s d v
def newU (d : Option Nat) (r : Res) : List (Nat × Blk) := r.ups ++ (match r.new, d with
  | some (i, b), some _ => [(i, b)]
  | _, _ => [])
theorem newU_ids (d : Option Nat) (r : Res) : (newU d r).map (·.1) = idsR d r := by
  unfold newU idsR
  rw [List.map_append]
  congr 1
  cases r.new <;> cases d <;> rfl
/-- The block that an outcome makes is not referred to. -/
def cleanN (d : Option Nat) (r : Res) (σ : St) : Prop := match r.new, d with
  | some (i, _), some _ => Clean i σ
  | _, _ => True

theorem killM_updL (b : Nat) : ∀ (us : List (Nat × Blk)) (m : Nat → Option Blk), killM b (updL m us) = updL (killM b m) (us.map fun u => (u.1, killB b u.2))
  | [], m => rfl
  | (r, k) :: us, m => by
    simp only [updL, List.map_cons]
    rw [killM_updL b us]
    congr 1
    funext j
    simp only [killM, updM]
    by_cases h : j = r
    · cases k <;> simp [h, killB]
    · simp [h]
theorem updL_app : ∀ (us : List (Nat × Blk)) (m : Nat → Option Blk) (vs : List (Nat × Blk)), updL m (us ++ vs) = updL (updL m us) vs
  | [], _, _ => rfl
  | (r, b) :: us, m, vs => by simp only [List.cons_append, updL]; exact updL_app us _ vs
theorem deadL_kill (i : Nat) : ∀ (us : List (Nat × Blk)), deadL us = true → us.map (fun u => (u.1, killB i u.2)) = us
  | [], _ => rfl
  | (r, b) :: us, h => by
    simp only [deadL, Bool.and_eq_true] at h
    rw [List.map_cons, deadL_kill i us h.2]
    cases b with
    | dead => rfl
    | cells cs => simp [isDead] at h
    | buf t z es => simp [isDead] at h
    | qb t z es => simp [isDead] at h
    | ms n ks => simp [isDead] at h
    | clo f z es i off => simp [isDead] at h
theorem put_clean {d : Option Nat} {r : Res} {σ : St} (hn : newOK d r) (hc : cleanN d r σ) : σ.put d r = ⟨updO σ.s d r.val, updL σ.m (newU d r)⟩ := by
  obtain ⟨pre, post, v, us, new, t⟩ := r
  cases d with
  | none =>
    cases new with
    | none => simp [St.put, updO, newU]
    | some b => exact hn.elim
  | some d =>
    cases new with
    | none => simp [St.put, updO, newU]
    | some b =>
      obtain ⟨i, b⟩ := b
      obtain ⟨h0, h1, h2⟩ := hn
      simp only at h0 h1 h2
      have hs : killS i σ.s = σ.s := hc.s
      have hm : killM i σ.m = σ.m := hc.m
      have hk : killB i b = b := by
        cases b with
        | cells cs => simpa [killB] using h2
        | buf t z es => rfl
        | qb t z es => rfl
        | ms n ks => rfl
        | clo f z es i off => rfl
        | dead => rfl
      have hl : liveB b = some b := by rwa [hk] at h2
      have hu : us.map (fun u => (u.1, killB i u.2)) = us := deadL_kill i us h1
      simp only [St.put, updO, newU, hs]
      rw [killM_updL, hm, hu, hk, updL_app]
      simp only [updL, hl]

def lastU : List (Nat × Blk) → Nat → Option (Option Blk)
  | [], _ => none
  | (r, b) :: us, k => (lastU us k).or (if k = r then some (liveB b) else none)
theorem updL_last : ∀ (us : List (Nat × Blk)) (m : Nat → Option Blk) (k : Nat), updL m us k = (lastU us k).getD (m k)
  | [], m, k => by simp [updL, lastU]
  | (r, b) :: us, m, k => by
    simp only [updL, lastU]
    rw [updL_last us]
    cases lastU us k with
    | some x => rfl
    | none => simp only [Option.none_or, updM, Option.getD_none]; split <;> simp
theorem lastU_none : ∀ {us : List (Nat × Blk)} {k : Nat}, k ∉ us.map (·.1) → lastU us k = none
  | [], k, _ => rfl
  | (r, b) :: us, k, h => by
    simp only [List.map_cons, List.mem_cons, not_or] at h
    simp [lastU, lastU_none h.2, h.1]
theorem updL_out {us : List (Nat × Blk)} {m : Nat → Option Blk} {k : Nat} (h : k ∉ us.map (·.1)) : updL m us k = m k := by
  rw [updL_last, lastU_none h]; rfl
theorem updL_comm {us vs : List (Nat × Blk)} {m : Nat → Option Blk} (h : ∀ k ∈ us.map (·.1), k ∉ vs.map (·.1)) : updL (updL m us) vs = updL (updL m vs) us := by
  funext k
  rw [updL_last, updL_last, updL_last, updL_last]
  by_cases hk : k ∈ us.map (·.1)
  · rw [lastU_none (h k hk)]; simp
  · rw [lastU_none hk]; simp
theorem updO_comm {s : Nat → AV} {d e : Option Nat} {v u : AV} (h : ∀ k, d = some k → e ≠ some k) : updO (updO s d v) e u = updO (updO s e u) d v := by
  cases d with
  | none => rfl
  | some d =>
    cases e with
    | none => rfl
    | some e =>
      funext k
      have hne : d ≠ e := fun he => h d rfl (by rw [he])
      simp only [updO, upd]
      by_cases h1 : k = d
      · subst h1; simp [hne]
      · simp [h1]
theorem updO_out {s : Nat → AV} {d : Option Nat} {v : AV} {k : Nat} (h : d ≠ some k) : updO s d v k = s k := by
  cases d with
  | none => rfl
  | some d =>
    have : k ≠ d := fun e => h (by rw [e])
    simp [updO, upd, this]

theorem clean_put {b : Nat} {d : Option Nat} {r : Res} {σ : St} (hn : newOK d r) (hc : cleanN d r σ) (hb : Clean b σ) (hm : noMen b r) : Clean b (σ.put d r) := by
  rw [put_clean hn hc]
  obtain ⟨h1, h2, h3, h4⟩ := hm
  refine ⟨?_, ?_⟩
  · cases d with
    | none => exact hb.s
    | some d =>
      funext k
      have := congrFun hb.s k
      simp only [killS, updO, upd] at this ⊢
      by_cases hk : k = d
      · simp [hk, h1]
      · simp [hk, this]
  · show killM b (updL σ.m (newU d r)) = updL σ.m (newU d r)
    rw [killM_updL, hb.m]
    congr 1
    unfold newU
    rw [List.map_append, h2]
    congr 1
    cases hN : r.new with
    | none => cases d <;> rfl
    | some k =>
      rw [hN] at h4
      cases d with
      | none => rfl
      | some d => simp [h4]

/-! ### The outcomes of an operation, its guard looked at or not -/
def passP (o : RO) (σ : St) : Prop := o.guard = none ∨ ∃ g b, o.guard = some (g, b) ∧ σ.s g = .bool b
def evR (Φ : Nat → Option Ctr) (o : RO) (σ : St) (r : Res) : Prop :=
  evG Φ o σ = some r ∨
  (passP o σ ∧ (evOp Φ o.op (o.dst.getD 0) [] σ = some r ∨ ∃ k x y q v, o.op = .pick (.t k) x y ∧ σ.s k = .bool q ∧ av σ [] (bif q then x else y) = some v ∧ r = ⟨[], [], v, [], none, []⟩)) ∨
  (∃ g b, o.guard = some (g, b) ∧ σ.s g = .bool (!b) ∧ r = ⟨[], [], .junk, [], none, []⟩)
theorem evR_agr {Φ : Nat → Option Ctr} {σ σ' : St} {o : RO} {r : Res} (h : evR Φ o σ r) (hs : ∀ k ∈ o.reads, σ'.s k = σ.s k) (hp : ∀ k ∈ pslots r.val, σ'.s k = σ.s k) (hm : ∀ b ∈ r.tch, σ'.m b = σ.m b) (hu : ∀ b ∈ r.ups.map (·.1), σ'.m b = σ.m b) : evR Φ o σ' r := by
  have hg : ∀ g b, o.guard = some (g, b) → σ'.s g = σ.s g := fun g b e => hs g (by simp [RO.reads, e])
  have ho : ∀ k ∈ o.op.reads, σ'.s k = σ.s k := fun k hk => hs k (by unfold RO.reads; exact List.mem_append_right _ hk)
  rcases h with h | ⟨hpass, h⟩ | ⟨g, b, h1, h2, h3⟩
  · exact .inl (evG_agr h hs hp hm hu)
  · refine .inr (.inl ⟨?_, ?_⟩)
    · rcases hpass with h1 | ⟨g, b, h1, h2⟩
      · exact .inl h1
      · exact .inr ⟨g, b, h1, by rw [hg g b h1]; exact h2⟩
    · rcases h with h | ⟨k, x, y, q, v, h1, h2, h3, h4⟩
      · exact .inl (evOp_agr h ho hm)
      · rw [h1] at ho
        simp only [IOp.reads, slotsA, List.mem_append] at ho
        refine .inr ⟨k, x, y, q, v, h1, by rw [ho k (.inl (by simp))]; exact h2, ?_, h4⟩
        rw [av_agr]
        · exact h3
        · intro j hj
          cases q with
          | true => exact ho j (.inr (.inl hj))
          | false => exact ho j (.inr (.inr hj))
  · exact .inr (.inr ⟨g, b, h1, by rw [hg g b h1]; exact h2, h3⟩)

/-! ### Operations in an order, each with its outcome -/
def EvL (Φ : Nat → Option Ctr) : List (Nat × RO × Res) → St → (St → Prop) → Prop
  | [], σ, K => K σ
  | (n, o, r) :: T, σ, K => evR Φ o σ r ∧ (∀ q ∈ r.pre, q) ∧ newOK o.dst r ∧ (∀ t ∈ T, pairOK n o.dst r t.2.1.after t.2.1.dst t.2.2) ∧ EvL Φ T (σ.put o.dst r) K
def cleanAll (T : List (Nat × RO × Res)) (σ : St) : Prop := ∀ t ∈ T, cleanN t.2.1.dst t.2.2 σ

theorem newMen_of {d : Option Nat} {r r1 : Res} (h : newMen d r r1) {σ : St} {d1 : Option Nat} (hn : newOK d1 r1) (hc : cleanN d1 r1 σ) (hb : cleanN d r σ) : cleanN d r (σ.put d1 r1) := by
  unfold newMen at h
  unfold cleanN at hb ⊢
  cases hN : r.new with
  | none => trivial
  | some b =>
    cases d with
    | none => trivial
    | some d =>
      simp only [hN] at h hb
      exact clean_put hn hc hb h

theorem disjN_iff {l l' : List Nat} (h : disjN l l' = true) : ∀ x ∈ l, x ∉ l' := by
  intro x hx hx'
  simp only [disjN, List.all_eq_true] at h
  have := h x hx
  simp [hx'] at this

theorem apartO_spec {x y : RO} (h : apartO x y = true) : (∀ d, x.dst = some d → d ∉ y.reads) ∧ (∀ d, y.dst = some d → d ∉ x.reads) := by
  simp only [apartO, Bool.and_eq_true] at h
  refine ⟨fun d hd => ?_, fun d hd => ?_⟩
  · have := h.1; rw [hd] at this; simpa using this
  · have := h.2; rw [hd] at this; simpa using this

/-- An operation that waits for none of those ahead of it may be done first. -/
theorem EvL_front {Φ : Nat → Option Ctr} {n : Nat} {o : RO} {r : Res} {B : List (Nat × RO × Res)} {K : St → Prop} : ∀ (A : List (Nat × RO × Res)) (σ : St), EvL Φ (A ++ (n, o, r) :: B) σ K → cleanAll (A ++ (n, o, r) :: B) σ →
    (∀ t ∈ A, o.after.contains t.1 = false ∧ apartO t.2.1 o = true ∧ ∀ k, t.2.1.dst = some k → o.dst ≠ some k) →
    evR Φ o σ r ∧ (∀ q ∈ r.pre, q) ∧ newOK o.dst r ∧ EvL Φ (A ++ B) (σ.put o.dst r) K ∧ cleanAll (A ++ B) (σ.put o.dst r)
  | [], σ, h, hc, _ => by
    simp only [List.nil_append, EvL] at h ⊢
    obtain ⟨h1, h2, h3, h4, h5⟩ := h
    refine ⟨h1, h2, h3, h5, fun t ht => ?_⟩
    exact newMen_of (h4 t ht).1 h3 (hc (n, o, r) (by simp)) (hc t (by simp [ht]))
  | (m, o1, r1) :: A, σ, h, hc, hA => by
    simp only [List.cons_append, EvL] at h
    obtain ⟨h1, h2, h3, h4, h5⟩ := h
    have hc1 : cleanN o1.dst r1 σ := hc (m, o1, r1) (by simp)
    have hco : cleanN o.dst r σ := hc (n, o, r) (by simp)
    have hcs : cleanAll (A ++ (n, o, r) :: B) (σ.put o1.dst r1) := fun t ht => newMen_of (h4 t ht).1 h3 hc1 (hc t (by simp only [List.cons_append, List.mem_cons]; exact .inr ht))
    obtain ⟨g1, g2, g3, g4, g5⟩ := EvL_front A _ h5 hcs (fun t ht => hA t (List.mem_cons_of_mem _ ht))
    obtain ⟨a1, a2, a3⟩ := hA (m, o1, r1) (by simp)
    simp only at a1 a2 a3
    have hp := h4 (n, o, r) (by simp)
    unfold pairOK at hp
    simp only [a1] at hp
    obtain ⟨p1, p2, p3⟩ := hp
    simp only [chkR, Bool.and_eq_true] at p2
    obtain ⟨⟨⟨c1, c2⟩, c3⟩, c4⟩ := p2
    have c1 := disjN_iff c1
    have c2 := disjN_iff c2
    have c3 := disjN_iff c3
    have c4 := disjN_iff c4
    obtain ⟨s1, s2⟩ := apartO_spec a2
    have hput1 := put_clean h3 hc1
    have e1 : evR Φ o σ r := by
      refine evR_agr g1 ?_ ?_ ?_ ?_
      · intro k hk
        rw [hput1]
        exact (updO_out (fun e => s1 k e hk)).symm
      · intro k hk
        rw [hput1]
        exact (updO_out (fun e => c1 k hk (by simp [optN, e]))).symm
      · intro b hb
        rw [hput1]
        refine (updL_out ?_).symm
        rw [newU_ids]
        exact fun hi => c3 b hi (by simp [hb])
      · intro b hb
        rw [hput1]
        refine (updL_out ?_).symm
        rw [newU_ids]
        exact fun hi => c3 b hi (by simp only [List.mem_append]; exact .inr (by unfold idsR; exact List.mem_append_left _ hb))
    have hput := put_clean g3 hco
    have e2 : evR Φ o1 (σ.put o.dst r) r1 := by
      refine evR_agr h1 ?_ ?_ ?_ ?_
      · intro k hk
        rw [hput]
        exact updO_out (fun e => s2 k e hk)
      · intro k hk
        rw [hput]
        exact updO_out (fun e => c2 k hk (by simp [optN, e]))
      · intro b hb
        rw [hput]
        refine updL_out ?_
        rw [newU_ids]
        exact fun hi => c4 b hi hb
      · intro b hb
        rw [hput]
        refine updL_out ?_
        rw [newU_ids]
        exact fun hi => c3 b (by unfold idsR; exact List.mem_append_left _ hb) (by simp [hi])
    have hc1' : cleanN o1.dst r1 (σ.put o.dst r) := newMen_of p3 g3 hco hc1
    have hco' : cleanN o.dst r (σ.put o1.dst r1) := hcs (n, o, r) (by simp)
    have e3 : (σ.put o1.dst r1).put o.dst r = (σ.put o.dst r).put o1.dst r1 := by
      rw [put_clean g3 hco', put_clean h3 hc1', hput1, hput]
      simp only [St.mk.injEq]
      refine ⟨updO_comm a3, updL_comm ?_⟩
      rw [newU_ids, newU_ids]
      exact fun k hk hk' => c3 k hk (by simp [hk'])
    refine ⟨e1, g2, g3, ?_, ?_⟩
    · simp only [List.cons_append, EvL]
      refine ⟨e2, h2, h3, fun t ht => h4 t ?_, ?_⟩
      · rcases List.mem_append.1 ht with ht | ht
        · exact List.mem_append_left _ ht
        · exact List.mem_append_right _ (List.mem_cons_of_mem _ ht)
      · rw [← e3]; exact g4
    · intro t ht
      simp only [List.cons_append, List.mem_cons] at ht
      rcases ht with rfl | ht
      · exact hc1'
      · rcases List.mem_append.1 ht with ht' | ht'
        · have hpt : newMen t.2.1.dst t.2.2 r := by
            -- t stands ahead of o: the pair's second limb
            have : ∀ (A : List (Nat × RO × Res)) (σ : St), EvL Φ (A ++ (n, o, r) :: B) σ K → (∀ t ∈ A, o.after.contains t.1 = false) → ∀ t ∈ A, newMen t.2.1.dst t.2.2 r := by
              intro A
              induction A with
              | nil => intro _ _ _ t ht; cases ht
              | cons x A ih =>
                intro σ hE hA t ht
                simp only [List.cons_append, EvL] at hE
                obtain ⟨_, _, _, q4, q5⟩ := hE
                rcases List.mem_cons.1 ht with rfl | ht
                · have hq := q4 (n, o, r) (by simp)
                  unfold pairOK at hq
                  simp only [hA t (by simp)] at hq
                  exact hq.2.2
                · exact ih _ q5 (fun t ht => hA t (List.mem_cons_of_mem _ ht)) t ht
            exact this A _ h5 (fun t ht => (hA t (List.mem_cons_of_mem _ ht)).1) t ht'
          exact newMen_of hpt g3 hco (hc t (by simp [ht']))
        · have hpt : newMen t.2.1.dst t.2.2 r := by
            have : ∀ (A : List (Nat × RO × Res)) (σ : St), EvL Φ (A ++ (n, o, r) :: B) σ K → ∀ t ∈ B, newMen t.2.1.dst t.2.2 r := by
              intro A
              induction A with
              | nil =>
                intro σ hE t ht
                simp only [List.nil_append, EvL] at hE
                exact (hE.2.2.2.1 t ht).1
              | cons x A ih =>
                intro σ hE t ht
                simp only [List.cons_append, EvL] at hE
                exact ih _ hE.2.2.2.2 t ht
            exact this A _ h5 t ht'
          exact newMen_of hpt g3 hco (hc t (by simp [ht']))

theorem pairD_mem : ∀ {D : List (Nat × Option Nat × Res)} {af : List Nat} {d : Option Nat} {r : Res} {K : Prop}, pairD D af d r K → (∀ x ∈ D, pairOK x.1 x.2.1 x.2.2 af d r) ∧ K
  | [], _, _, _, _, h => ⟨by simp, h⟩
  | (m, d1, r1) :: D, _, _, _, _, h => by
    obtain ⟨h1, h2⟩ := h
    obtain ⟨h3, h4⟩ := pairD_mem h2
    exact ⟨fun x hx => by rcases List.mem_cons.1 hx with rfl | hx; exact h1; exact h3 x hx, h4⟩
theorem knowD_mem : ∀ {D : List (Nat × Option Nat × Res)} {K : Prop}, knowD D K → (∀ x ∈ D, ∀ q ∈ x.2.2.post, q) → K
  | [], _, h, _ => h
  | (m, d1, r1) :: D, _, h, hq => knowD_mem (knowL_mem h (hq (m, d1, r1) (by simp))) (fun x hx => hq x (List.mem_cons_of_mem _ hx))

theorem evD_EvL {Φ : Nat → Option Ctr} {K : St → Prop} : ∀ (l : List RO) (n : Nat) (D : List (Nat × Option Nat × Res)) (σ : St), evD Φ l n D σ K →
    ∃ T : List (Nat × RO × Res), T.map (·.2.1) = l ∧ (∀ i t, T[i]? = some t → t.1 = n + i) ∧
      (∀ t ∈ T, ∀ x ∈ D, pairOK x.1 x.2.1 x.2.2 t.2.1.after t.2.1.dst t.2.2) ∧
      EvL Φ T σ (fun σ' => (∀ t ∈ T, ∀ q ∈ t.2.2.post, q) → (∀ x ∈ D, ∀ q ∈ x.2.2.post, q) → K σ')
  | [], n, D, σ, h => ⟨[], rfl, by simp, by simp, fun _ hD => knowD_mem h hD⟩
  | o :: l, n, D, σ, h => by
    simp only [evD] at h
    split at h
    · exact h.elim
    · rename_i r hr
      obtain ⟨hn, h⟩ := h
      obtain ⟨hpre, h⟩ := askL_mem h
      obtain ⟨hpair, h⟩ := pairD_mem h
      obtain ⟨T, h1, h2, h3, h4⟩ := evD_EvL l (n + 1) _ _ h
      refine ⟨(n, o, r) :: T, by simp [h1], ?_, ?_, ?_⟩
      · intro i t hi
        cases i with
        | zero => simp at hi; subst hi; rfl
        | succ i => have := h2 i t (by simpa using hi); omega
      · intro t ht x hx
        rcases List.mem_cons.1 ht with rfl | ht
        · exact hpair x hx
        · exact h3 t ht x (List.mem_cons_of_mem _ hx)
      · simp only [EvL]
        refine ⟨.inl hr, hpre, hn, fun t ht => h3 t ht (n, o.dst, r) (by simp), ?_⟩
        have mono : ∀ (T : List (Nat × RO × Res)) (σ : St) (K K' : St → Prop), (∀ σ, K σ → K' σ) → EvL Φ T σ K → EvL Φ T σ K' := by
          intro T
          induction T with
          | nil => intro σ K K' hk h; exact hk σ h
          | cons x T ih =>
            intro σ K K' hk h
            simp only [EvL] at h ⊢
            exact ⟨h.1, h.2.1, h.2.2.1, h.2.2.2.1, ih _ _ _ hk h.2.2.2.2⟩
        refine mono T _ _ _ (fun σ' hk hT hD => hk (fun t ht => hT t (List.mem_cons_of_mem _ ht)) ?_) h4
        intro x hx
        rcases List.mem_cons.1 hx with rfl | hx
        · exact hT (n, o, r) (by simp)
        · exact hD x hx

theorem evDS1_some {Φ : Nat → Option Ctr} {o : RO} {n : Nat} {D : DL} {σ : St} {K : DL → St → Prop} (h : evDS1 Φ o n D σ K) :
    ∃ r, evR Φ o σ r ∧ newOK o.dst r ∧ (∀ q ∈ r.pre, q) ∧ (∀ x ∈ D, pairOK x.1 x.2.1 x.2.2 o.after o.dst r) ∧ K ((n, o.dst, r) :: D) (σ.put o.dst r) := by
  have same : ∀ (k : Nat) (x : AV), σ.s k = x → (⟨upd σ.s k x, σ.m⟩ : St) = σ := by
    intro k x hx
    have : upd σ.s k x = σ.s := by
      funext j
      simp only [upd]
      split
      · rename_i e; rw [e, hx]
      · rfl
    rw [this]
  obtain ⟨d, op, g, af⟩ := o
  have step : ∀ (x : Option Res), stepDS d af n D σ K x → ∃ r, x = some r ∧ newOK d r ∧ (∀ q ∈ r.pre, q) ∧ (∀ x ∈ D, pairOK x.1 x.2.1 x.2.2 af d r) ∧ K ((n, d, r) :: D) (σ.put d r) := by
    intro x hx
    cases x with
    | none => exact hx.elim
    | some r =>
      obtain ⟨hn, hx⟩ := hx
      obtain ⟨hpre, hx⟩ := askL_mem hx
      obtain ⟨hpair, hx⟩ := pairD_mem hx
      exact ⟨r, rfl, hn, hpre, hpair, hx⟩
  have pass : passP ⟨d, op, g, af⟩ σ → passDS Φ d op af n D σ K (pickOf op) → ∃ r, evR Φ ⟨d, op, g, af⟩ σ r ∧ newOK d r ∧ (∀ q ∈ r.pre, q) ∧ (∀ x ∈ D, pairOK x.1 x.2.1 x.2.2 af d r) ∧ K ((n, d, r) :: D) (σ.put d r) := by
    intro hp h
    cases hop : pickOf op with
    | none =>
      rw [hop] at h
      obtain ⟨r, h1, h2⟩ := step _ h
      exact ⟨r, .inr (.inl ⟨hp, .inl h1⟩), h2⟩
    | some q =>
      obtain ⟨c, x, y⟩ := q
      have hio : op = .pick c x y := by cases op <;> simp [pickOf] at hop; obtain ⟨rfl, rfl, rfl⟩ := hop; rfl
      rw [hop] at h
      simp only [passDS] at h
      unfold pickDS at h
      split at h <;> try (exact h.elim)
      rename_i b hb
      cases c with
      | c v => exact h.elim
      | t k =>
        obtain ⟨hx, hy⟩ := h
        have hk : σ.s k = .bool b := hb
        cases b with
        | true =>
          have h := hx rfl
          rw [same k _ hk] at h
          obtain ⟨r, h1, h2⟩ := step _ h
          cases hv : av σ [] x with
          | none => rw [hv] at h1; cases h1
          | some v =>
            rw [hv] at h1
            exact ⟨r, .inr (.inl ⟨hp, .inr ⟨k, x, y, true, v, hio, hk, hv, (Option.some.inj h1).symm⟩⟩), h2⟩
        | false =>
          have h := hy rfl
          rw [same k _ hk] at h
          obtain ⟨r, h1, h2⟩ := step _ h
          cases hv : av σ [] y with
          | none => rw [hv] at h1; cases h1
          | some v =>
            rw [hv] at h1
            exact ⟨r, .inr (.inl ⟨hp, .inr ⟨k, x, y, false, v, hio, hk, hv, (Option.some.inj h1).symm⟩⟩), h2⟩
  cases g with
  | none => exact pass (.inl rfl) h
  | some gb =>
    obtain ⟨g, b⟩ := gb
    simp only [evDS1] at h
    unfold guardDS at h
    split at h <;> try (exact h.elim)
    rename_i c hc
    obtain ⟨hy, hn⟩ := h
    by_cases hcb : c = b
    · subst hcb
      have h := hy rfl
      rw [same g _ hc] at h
      exact pass (.inr ⟨g, c, rfl, hc⟩) h
    · have hc' : c = (!b) := by cases c <;> cases b <;> simp_all
      have h := hn hc'
      rw [hc'] at hc
      rw [same g _ hc] at h
      obtain ⟨r, h1, h2⟩ := step _ h
      exact ⟨r, .inr (.inr ⟨g, b, rfl, hc, (Option.some.inj h1).symm⟩), h2⟩
theorem evDS_EvL {Φ : Nat → Option Ctr} {K : St → Prop} : ∀ (l : List RO) (n : Nat) (D : List (Nat × Option Nat × Res)) (σ : St), evDS Φ l n D σ K →
    ∃ T : List (Nat × RO × Res), T.map (·.2.1) = l ∧ (∀ i t, T[i]? = some t → t.1 = n + i) ∧
      (∀ t ∈ T, ∀ x ∈ D, pairOK x.1 x.2.1 x.2.2 t.2.1.after t.2.1.dst t.2.2) ∧
      EvL Φ T σ (fun σ' => (∀ t ∈ T, ∀ q ∈ t.2.2.post, q) → (∀ x ∈ D, ∀ q ∈ x.2.2.post, q) → K σ')
  | [], n, D, σ, h => ⟨[], rfl, by simp, by simp, fun _ hD => knowD_mem h hD⟩
  | o :: l, n, D, σ, h => by
    simp only [evDS] at h
    obtain ⟨r, hr, hn, hpre, hpair, h⟩ := evDS1_some h
    obtain ⟨T, h1, h2, h3, h4⟩ := evDS_EvL l (n + 1) _ _ h
    refine ⟨(n, o, r) :: T, by simp [h1], ?_, ?_, ?_⟩
    · intro i t hi
      cases i with
      | zero => simp at hi; subst hi; rfl
      | succ i => have := h2 i t (by simpa using hi); omega
    · intro t ht x hx
      rcases List.mem_cons.1 ht with rfl | ht
      · exact hpair x hx
      · exact h3 t ht x (List.mem_cons_of_mem _ hx)
    · simp only [EvL]
      refine ⟨hr, hpre, hn, fun t ht => h3 t ht (n, o.dst, r) (by simp), ?_⟩
      have mono : ∀ (T : List (Nat × RO × Res)) (σ : St) (K K' : St → Prop), (∀ σ, K σ → K' σ) → EvL Φ T σ K → EvL Φ T σ K' := by
        intro T
        induction T with
        | nil => intro σ K K' hk h; exact hk σ h
        | cons x T ih =>
          intro σ K K' hk h
          simp only [EvL] at h ⊢
          exact ⟨h.1, h.2.1, h.2.2.1, h.2.2.2.1, ih _ _ _ hk h.2.2.2.2⟩
      refine mono T _ _ _ (fun σ' hk hT hD => hk (fun t ht => hT t (List.mem_cons_of_mem _ ht)) ?_) h4
      intro x hx
      rcases List.mem_cons.1 hx with rfl | hx
      · exact hT (n, o, r) (by simp)
      · exact hD x hx

/-! ### What the written-out waits are -/
theorem closeGo_get : ∀ (l : List RO) (acc : List (List Nat)) (i : Nat), (∃ af, (closeGo l acc)[i]? = (l[i]?).map fun o => { o with after := af })
  | [], acc, i => ⟨[], by simp [closeGo]⟩
  | o :: l, acc, 0 => ⟨unionN acc o.after (addN o.after []), by simp [closeGo]⟩
  | o :: l, acc, i + 1 => by
    obtain ⟨af, h⟩ := closeGo_get l (acc ++ [unionN acc o.after (addN o.after [])]) i
    exact ⟨af, by simpa [closeGo] using h⟩
theorem closeGo_len : ∀ (l : List RO) (acc : List (List Nat)), (closeGo l acc).length = l.length
  | [], acc => rfl
  | o :: l, acc => by simp [closeGo, closeGo_len l]

end Go.Ev
