/- A part of the proof: symbolic evaluation of the program's functions, proved sound against the model; no condition. -/
/-
  The framework 'Ev', part R: between regions: what may be forgotten, frozen, named anew; blocks that a call hands back.
  Conditions: none; a text of lemmas.
-/
import Derived.Test.YteakklbbdfgbdaaEvQ
namespace Go.Ev
open Go Go.RowKit
set_option linter.unusedVariables false
set_option linter.unusedSectionVars false
set_option linter.unusedSimpArgs false

/-- Between regions. -/
def BInv (X : Cx) (N : Nat) (σ : St) (a : Act) (w : World) : Prop :=
  ∃ Z θ, (∀ k, Rep Z w θ (σ.s k) (a.tmps.getD k undef)) ∧ Mem X Z w θ σ.m ∧ a.tmps.size = N ∧ a.defers = []

section
variable {X : Cx} {N : Nat} {σ : St} {a : Act} {w : World}

theorem BInv.inv (h : BInv X N σ a w) (G : Prop) : ∃ Z θ, Inv X N G Z w θ [] σ a.tmps ∧ a.defers = [] := by
  obtain ⟨Z, θ, hs, hm, hsz, hd⟩ := h
  exact ⟨Z, θ, ⟨fun k => .of_rep (hs k), hm, fun k q y h => absurd h (rep_nogd (hs k) q y), .inr fun k q y => rep_nogd (hs k) q y, hsz⟩, hd⟩
theorem Inv.binv {Z : Nat → Prop} {θ : Nat → Value} {W : List Nat} (h : Inv X N False Z w θ W σ a.tmps) (hd : a.defers = []) : BInv X N σ a w :=
  ⟨Z, θ, fun k => (h.slot k).rep (h.nog.resolve_left id k), h.mem, h.size, hd⟩

theorem frz_binv (r : Nat) (h : BInv X N σ a w) : BInv X N (frzS r σ) a w := by
  obtain ⟨Z, θ, inv, hd⟩ := h.inv False
  obtain ⟨Z', _, inv'⟩ := inv.frzAny r
  exact inv'.binv hd

/-! ### A buffer named anew -/
theorem ren0_rep {Z : Nat → Prop} {θ : Nat → Value} {k R : Nat} (hθ : θ R = θ k) {x : AV} {v : Value} (h : Rep Z w θ x v) : Rep Z w θ (ren0 k R x) v := by
  cases x with
  | vw r a b c =>
    simp only [ren0]
    split
    · rename_i e; subst e
      cases h with
      | vw _ _ _ _ _ a' n' c' h' => exact .vw _ _ _ _ _ _ _ _ (hθ.trans h')
    · exact h
  | _ => exact h
theorem ren0_atom {k R : Nat} {x : AV} (h : x.atom = true) : (ren0 k R x).atom = true := by
  cases x <;> simp only [ren0] <;> (try split) <;> first | rfl | exact h
theorem ren1_lev1 {k R : Nat} {x : AV} (h : x.lev1 = true) : (ren1 k R x).lev1 = true := by
  cases x <;> simp only [ren1, ren0] <;> (try split) <;> first | rfl | exact h
theorem Cells.ren {Z : Nat → Prop} {θ : Nat → Value} {k R : Nat} (hθ : θ R = θ k) {cs : List AV} {vs : List Value} (h : Cells Z w θ cs vs) : Cells Z w θ (cs.map (ren0 k R)) vs := by
  refine ⟨by simpa using h.len, ?_, h.one, ?_⟩
  · intro c hc
    obtain ⟨c', hc', rfl⟩ := List.mem_map.1 hc
    exact ren0_atom (h.at1 c' hc')
  · intro i c v hc hv
    rw [List.getElem?_map] at hc
    obtain ⟨c', hc', rfl⟩ := Option.map_eq_some_iff.1 hc
    exact ren0_rep hθ (h.rep i c' v hc' hv)
theorem ren1_rep {Z : Nat → Prop} {θ : Nat → Value} {k R : Nat} (hθ : θ R = θ k) {x : AV} {v : Value} (h : Rep Z w θ x v) : Rep Z w θ (ren1 k R x) v := by
  cases x with
  | agg cs =>
    obtain ⟨vs, rfl, hc⟩ := h.cells
    exact (hc.ren hθ).agg
  | _ => exact ren0_rep hθ h
theorem ren2_rep {Z : Nat → Prop} {θ : Nat → Value} {k R : Nat} (hθ : θ R = θ k) {x : AV} {v : Value} (h : Rep Z w θ x v) : Rep Z w θ (ren2 k R x) v := by
  cases x with
  | tup cs =>
    cases h with
    | tup _ _ vs hl ha h =>
      refine .tup θ _ vs (by simpa using hl) ?_ ?_
      · intro c hc
        obtain ⟨c', hc', rfl⟩ := List.mem_map.1 hc
        exact ren1_lev1 (ha c' hc')
      · intro i c v hc hv
        rw [List.getElem?_map] at hc
        obtain ⟨c', hc', rfl⟩ := Option.map_eq_some_iff.1 hc
        exact ren1_rep hθ (h i c' v hc' hv)
  | _ => exact ren1_rep hθ h
theorem ren3_rep {Z : Nat → Prop} {θ : Nat → Value} {k R : Nat} (hθ : θ R = θ k) {x : AV} {v : Value} (h : Rep Z w θ x v) : Rep Z w θ (ren3 k R x) v := by
  cases x with
  | gd q y => cases h
  | _ => exact ren2_rep hθ h
theorem kill3_rep {Z : Nat → Prop} {θ θ' : Nat → Value} {r : Nat} (ht : ∀ k, k ≠ r → θ' k = θ k) {x : AV} {v : Value} (h : Rep Z w θ x v) : Rep Z w θ' (kill3 r x) v := by
  cases x with
  | gd q y => cases h
  | _ => exact Rep.kill2 h r ht

/-- A kept block is let go. -/
theorem Mem.drop {Z : Nat → Prop} {θ : Nat → Value} {m : Nat → Option Blk} (hm : Mem X Z w θ m) (k : Nat) : Mem X Z w θ (updM m k none) := by
  refine hm.swap (fun r hr => ?_) (fun r blk hr => ?_)
  · simp only [updM] at hr
    split at hr
    · cases hr
    · exact hr
  · simp only [updM] at hr
    split at hr
    · cases hr
    · exact hm.brep r blk hr

theorem ren_binv (k R : Nat) (h : BInv X N σ a w) : BInv X N (renS k R σ) a w := by
  unfold renS renQ
  split
  · rename_i t z es hk
    split
    · rename_i hc
      simp only [Bool.and_eq_true, decide_eq_true_eq, Bool.not_eq_true', beq_eq_false_iff_ne, ne_eq] at hc
      obtain ⟨h64, h64k, hne⟩ := hc
      obtain ⟨Z, θ, hs, hm, hsz, hd⟩ := h
      have ht : ∀ i, i ≠ R → (fun i => if i = R then θ k else θ i) i = θ i := fun i hi => by simp [hi]
      have hθ : (fun i => if i = R then θ k else θ i) R = (fun i => if i = R then θ k else θ i) k := by simp [hne]
      obtain ⟨hz0, hrows, xs, hown, hnz, hcs⟩ := hm.brep k _ hk
      have h1 := (hm.drop k).put1 R (θ k) (.buf t z es) h64 (by
        exact ⟨hz0, hrows, xs, by simpa using hown, by simpa using hnz, hcs⟩) (by
        intro r' blk' _ hr' b hb hb'
        simp only [updM] at hr'
        split at hr'
        · cases hr'
        · rename_i hne'
          exact hne' (hm.disj r' k b (by rw [hr']; rfl) (by rw [hk]; rfl) hb' hb)) (by
        intro b hb
        rcases hm.own k b (by rw [hk]; rfl) hb with h | h
        · exact h
        · omega)
      refine ⟨Z, fun i => if i = R then θ k else θ i, fun i => ren3_rep hθ (kill3_rep ht (hs i)), ?_, hsz, hd⟩
      refine h1.swap (fun r hr => ?_) (fun r blk hr => ?_)
      · simp only [updM] at hr ⊢
        split at hr
        · rename_i e; subst e; simp
        · rename_i e
          split at hr
          · cases hr
          · rename_i e'
            simp only [e, if_false, killM]
            have e2 : updM σ.m k none r = σ.m r := by simp [updM, e']
            rw [e2]
            simp only [renM] at hr
            cases hmr : σ.m r with
            | none => rw [hmr] at hr; cases hr
            | some b0 => rfl
      · simp only [updM] at hr
        split at hr
        · rename_i e; subst e
          simp only [Option.some.injEq] at hr; subst hr
          exact h1.brep _ _ (by simp [updM, killB])
        · rename_i e
          split at hr
          · cases hr
          · rename_i e'
            simp only [renM] at hr
            cases hmr : σ.m r with
            | none => rw [hmr] at hr; cases hr
            | some b0 =>
              rw [hmr] at hr
              simp only [Option.some.injEq] at hr; subst hr
              have e2 : updM σ.m k none r = some b0 := by simp [updM, e', hmr]
              have := h1.brep r (killB R b0) (by simp only [updM, e, if_false, killM]; rw [show (if r = k then none else σ.m r) = some b0 from e2])
              cases b0 with
              | cells cs =>
                obtain ⟨b, T, vs, e1, e2, e3, e4⟩ := this
                exact ⟨b, T, vs, e1, e2, e3, e4.ren hθ⟩
              | buf t' z' es' => exact this
              | qb t' z' es' => exact this
              | ms n ks => exact this
              | clo f z' es' i off => exact this
              | dead => exact this.elim
    · exact h
  · exact h

/-! ### A nil slice as a buffer -/
/-- A buffer without elements that no slot refers to yet. -/
theorem Mem.begin {Z : Nat → Prop} {θ : Nat → Value} {m : Nat → Option Blk} (hm : Mem X Z w θ m) {R T : Nat} (h64 : 64 ≤ R) {z : List AV} (hz : 0 < z.length) :
    Mem X Z w (fun i => if i = R then .slice none 0 0 else θ i) (updM (killM R m) R (some (.buf T z []))) := by
  have := hm.put1 R (.slice none 0 0) (.buf T z []) h64 (by
    refine ⟨fun e => by rw [e] at hz; simp at hz, by simp, [], ?_, ?_, Cells.nil _ _ _⟩
    · simp only [if_true]
      exact World.ownsRow_nil w 0 T z.length
    · intro b hb
      simp [bk] at hb) (by
    intro r' blk' _ _ b hb
    simp [bk] at hb) (by
    intro b hb
    simp [bk] at hb)
  simpa only [killB] using this

theorem nls_binv (d R T : Nat) (z : List AV) (h : BInv X N σ a w) : BInv X N (nlS d R T z σ) a w := by
  unfold nlS nlV
  split
  · rename_i hd0
    split
    · rename_i hc
      simp only [Bool.and_eq_true, decide_eq_true_eq] at hc
      obtain ⟨h64, hz⟩ := hc
      obtain ⟨Z, θ, hs, hm, hsz, hd⟩ := h
      have ht : ∀ i, i ≠ R → (fun i => if i = R then (.slice none 0 0 : Value) else θ i) i = θ i := fun i hi => by simp [hi]
      refine ⟨Z, _, fun k => ?_, hm.begin h64 hz, hsz, hd⟩
      simp only [upd]
      split
      · rename_i e; subst e
        have := hs k
        rw [hd0] at this
        generalize a.tmps.getD k undef = v at this
        cases this
        exact .vw _ _ _ _ _ _ _ _ (by simp)
      · exact kill3_rep ht (hs k)
    · exact h
  · exact h

theorem nlc_binv (r i R T : Nat) (z : List AV) (h : BInv X N σ a w) : BInv X N (nlC r i R T z σ) a w := by
  unfold nlC nlC1
  split
  · rename_i cs hcs
    unfold nlC2
    split
    · rename_i hcell
      split
      · rename_i hc
        simp only [Bool.and_eq_true, decide_eq_true_eq, Bool.not_eq_true', beq_eq_false_iff_ne, ne_eq] at hc
        obtain ⟨h64, hz, hne⟩ := hc
        obtain ⟨Z, θ, hs, hm, hsz, hd⟩ := h
        have ht : ∀ i, i ≠ R → (fun i => if i = R then (.slice none 0 0 : Value) else θ i) i = θ i := fun i hi => by simp [hi]
        have h1 := hm.begin (T := T) h64 hz
        refine ⟨Z, _, fun k => kill3_rep ht (hs k), ?_, hsz, hd⟩
        refine h1.swap (fun k hk => ?_) (fun k blk hk => ?_)
        · simp only [updM] at hk ⊢
          split at hk
          · rename_i e; simp [e]
          · rename_i e
            simp only [e, if_false]
            split at hk
            · rename_i e'; subst e'; simp [killM, hcs]
            · exact hk
        · simp only [updM] at hk
          split at hk
          · rename_i e; subst e
            simp only [Option.some.injEq] at hk; subst hk
            exact h1.brep _ _ (by simp [updM])
          · rename_i e
            split at hk
            · rename_i e'; subst e'
              simp only [Option.some.injEq] at hk; subst hk
              obtain ⟨b, T', vs, e1, e2, e3, e4⟩ := h1.brep k (.cells (cs.map (kill0 R))) (by simp [updM, e, killM, hcs, killB])
              refine ⟨b, T', vs, e1, e2, e3, ?_⟩
              refine ⟨by simpa using e4.len, ?_, e4.one, ?_⟩
              · intro c hc
                rcases List.mem_or_eq_of_mem_set hc with h | h
                · exact e4.at1 c h
                · subst h; rfl
              · intro j c v hc hv
                rw [List.getElem?_set] at hc
                split at hc
                · rename_i ej; subst ej
                  split at hc <;> try (cases hc; done)
                  simp only [Option.some.injEq] at hc; subst hc
                  have := e4.rep i .nil v (by simp [hcell, kill0]) hv
                  cases this
                  exact .vw _ _ _ _ _ _ _ _ (by simp)
                · exact e4.rep j c v hc hv
            · exact h1.brep k blk (by simp only [updM, e, if_false]; exact hk)
      · exact h
    · exact h
  · exact h

theorem applyK_binv (l : Lk) (h : BInv X N σ a w) : BInv X N (applyK l σ) a w := by
  cases l with
  | frz k => exact frz_binv k h
  | ren k R => exact ren_binv k R h
  | nls d R T z => exact nls_binv d R T z h
  | nlc r i R T z => exact nlc_binv r i R T z h
theorem applyL_binv : ∀ (ls : List Lk) {σ : St}, BInv X N σ a w → BInv X N (applyL ls σ) a w
  | [], _, h => h
  | l :: ls, _, h => applyL_binv ls (applyK_binv l h)

/-! ### What may be forgotten -/
theorem leA_rep {Z : Nat → Prop} {w : World} {θ : Nat → Value} {x y : AV} {v : Value} (h : leA x y) (hr : Rep Z w θ x v) : Rep Z w θ y v := by
  unfold leA at h
  split at h
  · subst h
    cases hr with
    | nil _ => exact rep_empty _ _ _ _ _ (by unfold maxLen; omega)
  · subst h; exact hr
theorem leAs_cells {Z : Nat → Prop} {w : World} {θ : Nat → Value} : ∀ {xs ys : List AV} {vs : List Value}, leAs xs ys → Cells Z w θ xs vs → Cells Z w θ ys vs
  | [], [], vs, _, h => h
  | [], _ :: _, vs, h, _ => h.elim
  | _ :: _, [], vs, h, _ => h.elim
  | x :: xs, y :: ys, vs, h, hc => by
    cases vs with
    | nil => have := hc.len; simp at this
    | cons u us =>
      have hrest : Cells Z w θ xs us := by have := hc.drop 1; simpa using this
      have hat : y.atom = true := by
        have hx := hc.at1 x (by simp)
        have := h.1
        unfold leA at this
        split at this
        · rfl
        · rw [← this]; exact hx
      exact Cells.append (Cells.one' (leA_rep h.1 (hc.rep 0 x u rfl rfl)) hat (hc.one u (by simp))) (leAs_cells h.2 hrest)
theorem leV1_rep {Z : Nat → Prop} {w : World} {θ : Nat → Value} {x y : AV} {v : Value} (h : leV1 x y) (hr : Rep Z w θ x v) : Rep Z w θ y v := by
  unfold leV1 at h
  split at h
  · obtain ⟨vs, rfl, hc⟩ := hr.cells
    exact (leAs_cells h hc).agg
  · exact leA_rep h hr
theorem leL_rep {Z : Nat → Prop} {w : World} {θ : Nat → Value} {s : Nat → AV} {tm : Array Value} (hs : ∀ k, Rep Z w θ (s k) (tm.getD k undef)) : ∀ {l : List (Nat × AV)}, leL s l → ∀ k, Rep Z w θ (lookL l k) (tm.getD k undef)
  | [], _, k => .junk _ _
  | (d, v) :: l, h, k => by
    simp only [lookL, upd]
    split
    · rename_i hk; subst hk; exact leV1_rep h.1 (hs k)
    · exact leL_rep hs h.2 k
theorem leB_rep {Z : Nat → Prop} {w : World} {θ : Nat → Value} {r : Nat} {x y : Blk} (h : leB (some x) y) (hr : BRep Z w θ r x) : BRep Z w θ r y := by
  unfold leB at h
  split at h
  · rename_i cs ds e
    simp only [Option.some.injEq] at e; subst e
    obtain ⟨b, T, vs, h1, h2, h3, h4⟩ := hr
    exact ⟨b, T, vs, h1, h2, h3, leAs_cells h h4⟩
  · rename_i t z es t' z' es' e
    simp only [Option.some.injEq] at e; subst e
    obtain ⟨rfl, rfl, rfl⟩ := h
    exact hr
  · rename_i t z es t' z' es' e
    simp only [Option.some.injEq] at e; subst e
    obtain ⟨rfl, rfl, rfl⟩ := h
    obtain ⟨h1, h2, xs, h3, h4, h5⟩ := hr
    exact ⟨h1, h2, xs, .of_own h3, h4, h5⟩
  · rename_i t z es t' z' es' e
    simp only [Option.some.injEq] at e; subst e
    obtain ⟨rfl, rfl, rfl⟩ := h
    exact hr
  · rename_i e
    simp only [Option.some.injEq] at e; subst e
    obtain ⟨rfl, rfl⟩ := h
    exact hr
  · rename_i e
    simp only [Option.some.injEq] at e; subst e
    obtain ⟨rfl, rfl, rfl, rfl, rfl⟩ := h
    exact hr
  · exact h.elim
theorem leM_look {m : Nat → Option Blk} : ∀ {l : List (Nat × Blk)}, leM m l → ∀ r b, lookM l r = some b → ∃ b0, m r = some b0 ∧ leB (some b0) b
  | [], _, r, b, h => by simp [lookM] at h
  | (k, c) :: l, hl, r, b, h => by
    simp only [lookM, updM] at h
    split at h
    · rename_i hk; subst hk
      simp only [Option.some.injEq] at h; subst h
      have h1 := hl.1
      cases hm : m r with
      | none => rw [hm] at h1; unfold leB at h1; exact absurd h1 (by split <;> simp_all)
      | some b0 => exact ⟨b0, rfl, by rw [← hm]; exact h1⟩
    · exact leM_look hl.2 r b h
theorem ge0_inv {S : SL} {σ : St} {a : Act} {w : World} (h : S.ge0 σ) (hb : BInv X N σ a w) : BInv X N S.st a w := by
  obtain ⟨Z, θ, hs, hm, hsz, hd⟩ := hb
  refine ⟨Z, θ, leL_rep hs h.1, ?_, hsz, hd⟩
  refine hm.swap (fun r hr => ?_) (fun r blk hr => ?_)
  · obtain ⟨b, hb⟩ := Option.isSome_iff_exists.1 hr
    obtain ⟨b0, h0, _⟩ := leM_look h.2 r b hb
    rw [h0]; rfl
  · obtain ⟨b0, h0, h1⟩ := leM_look h.2 r blk hr
    exact leB_rep h1 (hm.brep r b0 h0)
theorem ge_inv {S : SL} {σ : St} {a : Act} {w : World} (h : S.ge σ) (hb : BInv X N σ a w) : BInv X N S.st a w := ge0_inv h (applyL_binv _ hb)
end
end Go.Ev
