/- A part of the proof: symbolic evaluation of the program's functions, proved sound against the model; no condition. -/
/-
  The framework 'Ev', part I: every operation that the compiler takes meets the outcome that the evaluator gives it.
  Conditions: none; a text of lemmas.
-/
import Derived.Test.YtmcaedjlglpdeaaEvH
namespace Go.Ev
open Go Go.RowKit
set_option linter.unusedVariables false
set_option linter.unusedSectionVars false
set_option linter.unusedSimpArgs false

section
variable {P : Program} {X : Cx} {Z : Nat → Prop} {w : World} {θ : Nat → Value} {a : Act} {σ : St} {p : List (Nat × Bool)} {Φ : Nat → Option Ctr}

theorem map_some' {α β : Type} {x : Option α} {f : α → β} {y : β} (h : x.map f = some y) : ∃ z, x = some z ∧ f z = y := by
  cases x with
  | none => cases h
  | some z => exact ⟨z, rfl, by simpa using h⟩

theorem und_of_agg {t : TypeId} {n : Nat} (h : sizeP P t = some n) (hu : (P.underlying t).isSome = true) : ∃ u, P.underlying t = some u := Option.isSome_iff_exists.1 hu

theorem op_sound (hΦ : ∀ f C, Φ f = some C → Sound P f C) {o : Oper} {io : IOp} (hc : compOp P o = some io)
    (hs : ∀ k, SRep Z w θ a.tmps (σ.s k) (a.tmps.getD k undef)) (hp : pathT a.tmps p) (hm : Mem X Z w θ σ.m) {d : Nat} (hd : needD io = true → d ≠ 0) {r : Res}
    (he : evOp Φ io d p σ = some r) (hpre : ∀ q ∈ r.pre, q) : OpOK P X Z w θ σ.m a o d r := by
  have hmb := hm.brep
  cases hop : o.op with
  | move x =>
    simp only [compOp, hop] at hc
    obtain ⟨x', hx, rfl⟩ := map_some' hc
    exact .of_calm (calm_mov hs hp (.inl hop) hx he) hm
  | assign x =>
    simp only [compOp, hop] at hc
    obtain ⟨x', hx, rfl⟩ := map_some' hc
    exact .of_calm (calm_mov hs hp (.inr hop) hx he) hm
  | pick c x y =>
    simp only [compOp, hop] at hc
    split at hc <;> try (cases hc; done)
    rename_i c' x' y' h1 h2 h3
    simp only [Option.some.injEq] at hc; subst hc
    simp only [evOp] at he
    split at he <;> try (cases he; done)
    rename_i k hk
    exact .of_calm (calm_pick hs hp hop h1 h2 h3 hk he) hm
  | alloc e =>
    simp only [compOp, hop] at hc
    split at hc <;> try (cases hc; done)
    rename_i z n hz hn
    split at hc <;> try (cases hc; done)
    simp only [Option.some.injEq] at hc; subst hc
    simp only [evOp, Option.some.injEq] at he; subst he
    exact ok_alloc hs hp hm (hd rfl) hop hz
  | box e x =>
    simp only [compOp, hop] at hc
    split at hc <;> try (cases hc; done)
    rename_i x' n hx hn
    simp only [Option.some.injEq] at hc; subst hc
    exact ok_box hs hp hm (hd rfl) hop hx he
  | build t ps =>
    simp only [compOp, hop] at hc
    split at hc <;> try (cases hc; done)
    · rename_i z fs hz hu
      split at hc <;> try (cases hc; done)
      rename_i hall
      obtain ⟨qs, hq, rfl⟩ := map_some' hc
      exact .of_calm (calm_buildS hs hp hop hu hall hz hq he) hm
    · rename_i z n e hz hu
      split at hc <;> try (cases hc; done)
      rename_i s hsz
      obtain ⟨qs, hq, rfl⟩ := map_some' hc
      exact .of_calm (calm_buildA hs hp hop hu hz hsz hq he) hm
  | buildSlice t n ps =>
    simp only [compOp, hop] at hc
    split at hc <;> try (cases hc; done)
    rename_i e hu
    split at hc <;> try (cases hc; done)
    rename_i s z qs hsz hz hq
    split at hc <;> try (cases hc; done)
    rename_i hh
    simp only [Option.some.injEq] at hc; subst hc
    exact ok_bslice hs hp hm hop hu hsz hz hq hh.1 hh.2.1 hh.2.2 he
  | load t x =>
    simp only [compOp, hop] at hc
    split at hc <;> try (cases hc; done)
    rename_i x' n hx hn
    split at hc <;> try (cases hc; done)
    rename_i hu
    obtain ⟨u, hu⟩ := Option.isSome_iff_exists.1 hu
    simp only [Option.some.injEq] at hc; subst hc
    exact .of_calm (calm_load hs hp hop hn hu hx hmb he) hm
  | store t x v =>
    simp only [compOp, hop] at hc
    split at hc <;> try (cases hc; done)
    rename_i x' v' n hx hv hn
    simp only [Option.some.injEq] at hc; subst hc
    exact ok_store hs hp hm hop hn hx hv he
  | nilCheck x =>
    simp only [compOp, hop] at hc
    obtain ⟨x', hx, rfl⟩ := map_some' hc
    exact .of_calm (calm_nilchk hs hp hop hx he) hm
  | binOp op t x y u =>
    simp only [compOp, hop] at hc
    split at hc <;> try (cases hc; done)
    rename_i x' y' hx hy
    split at hc <;> try (cases hc; done)
    · rename_i k hu
      split at hc
      · rename_i hcm
        simp only [Option.some.injEq] at hc; subst hc
        exact .of_calm (calm_cmpI hs hp hop hcm hx hy he) hm
      · split at hc <;> try (cases hc; done)
        rename_i har
        simp only [Option.some.injEq] at hc; subst hc
        exact .of_calm (calm_arith hs hp hop har hx hy he hpre) hm
    · rename_i hu
      split at hc <;> try (cases hc; done)
      rename_i heq
      simp only [Option.some.injEq] at hc; subst hc
      exact .of_calm (calm_cmpB hs hp hop heq hu hx hy he) hm
    · rename_i hu
      split at hc <;> try (cases hc; done)
      rename_i heq
      simp only [Option.some.injEq] at hc; subst hc
      exact .of_calm (calm_cmpS hs hp hop heq hx hy he) hm
    · rename_i fs hu
      split at hc <;> try (cases hc; done)
      rename_i heq
      simp only [Bool.and_eq_true, Bool.not_eq_true'] at heq
      obtain ⟨sh, hsh, rfl⟩ := map_some' hc
      exact .of_calm (calm_eqa hs hp hop heq.1 hsh (by omega) (by simp [aggP, hu]) heq.2 hx hy rfl he) hm
  | unOp op t x =>
    cases op <;> simp only [compOp, hop] at hc <;> try (cases hc; done)
    · obtain ⟨x', hx, rfl⟩ := map_some' hc
      exact .of_calm (calm_neg hs hp hop hx he) hm
    · obtain ⟨x', hx, rfl⟩ := map_some' hc
      exact .of_calm (calm_not hs hp hop hx he) hm
  | convert s dd x =>
    simp only [compOp, hop] at hc
    split at hc <;> try (cases hc; done)
    · rename_i x' k k' hx hu1 hu2
      simp only [Option.some.injEq] at hc; subst hc
      exact .of_calm (calm_conv hs hp hop hu1 hu2 hx he) hm
    · split at hc <;> try (cases hc; done)
      simp only [Option.some.injEq] at hc; subst hc
      simp [evOp] at he
  | makeSlice t l c =>
    simp only [compOp, hop] at hc
    split at hc <;> try (cases hc; done)
    split at hc <;> try (cases hc; done)
    split at hc <;> try (cases hc; done)
    simp only [Option.some.injEq] at hc; subst hc
    simp [evOp] at he
  | slice t x l h m =>
    cases m <;> simp only [compOp, hop] at hc <;> try (cases hc; done)
    split at hc <;> try (cases hc; done)
    split at hc <;> try (cases hc; done)
    simp only [Option.some.injEq] at hc; subst hc
    simp [evOp] at he
  | fieldAddr t x f =>
    simp only [compOp, hop] at hc
    split at hc <;> try (cases hc; done)
    rename_i fs x' hu hx
    split at hc <;> try (cases hc; done)
    rename_i fd hfd
    split at hc <;> try (cases hc; done)
    rename_i s hsz
    split at hc <;> try (cases hc; done)
    rename_i hs0
    simp only [Option.some.injEq] at hc; subst hc
    exact .of_calm (calm_faddr hs hp hop hu hfd hsz hs0 hx he) hm
  | field t x f =>
    simp only [compOp, hop] at hc
    split at hc <;> try (cases hc; done)
    split at hc <;> try (cases hc; done)
    obtain ⟨s, hsz, rfl⟩ := map_some' hc
    simp [evOp] at he
  | indexAddr t x i =>
    simp only [compOp, hop] at hc
    split at hc <;> try (cases hc; done)
    · rename_i e x' i' hu hx hi
      split at hc <;> try (cases hc; done)
      rename_i s z hsz hz
      split at hc <;> try (cases hc; done)
      rename_i hzl
      simp only [Option.some.injEq] at hc; subst hc
      exact .of_calm (calm_iaddrS hs hp hop hu hsz hzl hx hi he hpre) hm
    · rename_i n e x' i' hu hx hi
      obtain ⟨s, hsz, rfl⟩ := map_some' hc
      exact .of_calm (calm_iaddrA hs hp hop hu hsz hx hi he hpre) hm
  | extract x i =>
    simp only [compOp, hop] at hc
    obtain ⟨x', hx, rfl⟩ := map_some' hc
    exact .of_calm (calm_extract hs hp hop hx he) hm
  | call c =>
    simp only [compOp, hop, compCall] at hc
    split at hc <;> try (cases hc; done)
    · rename_i f xs' hcal hxs
      split at hc <;> try (cases hc; done)
      rename_i fn hfn
      split at hc <;> try (cases hc; done)
      rename_i hcond
      simp only [Option.some.injEq] at hc; subst hc
      exact ok_call hs hp hm hop hcal hfn hcond.1 hcond.2 hxs (fun C' h => hΦ _ _ h) he hpre
    · rename_i x' hcal hxs
      obtain ⟨x, hargs, hx⟩ : ∃ x, c.args = #[x] ∧ compA x = some x' := by
        generalize hl : c.args.toList = l at hxs
        match l, hxs with
        | [x], hxs =>
          simp only [compAs] at hxs
          split at hxs <;> try (cases hxs; done)
          rename_i b bs hb hbs
          simp only [Option.some.injEq] at hxs
          simp at hbs hxs
          obtain ⟨rfl, _⟩ := hxs
          exact ⟨x, by apply Array.ext'; simpa using hl, hb⟩
        | [], hxs => simp [compAs] at hxs
        | x :: y :: l, hxs =>
          simp only [compAs] at hxs
          split at hxs <;> try (cases hxs; done)
          rename_i b bs hb hbs
          split at hbs <;> simp at hbs
          subst hbs
          simp at hxs
      split at hc <;> try (cases hc; done)
      · rename_i e hu
        rw [Option.bind_eq_some_iff] at hu
        obtain ⟨t, ht, hu⟩ := hu
        simp only [Option.some.injEq] at hc; subst hc
        exact .of_calm (calm_len0 hs hp hop hcal hargs ht hu hx he) hm
      · rename_i hu
        rw [Option.bind_eq_some_iff] at hu
        obtain ⟨t, ht, hu⟩ := hu
        simp only [Option.some.injEq] at hc; subst hc
        exact .of_calm (calm_len1 hs hp hop hcal hargs ht hu hx he) hm
    · rename_i xs' hcal hxs
      simp only [Option.some.injEq] at hc; subst hc
      exact .of_calm (calm_minmax (mx := false) hs hp hop hcal hxs he) hm
    · rename_i xs' hcal hxs
      simp only [Option.some.injEq] at hc; subst hc
      exact .of_calm (calm_minmax (mx := true) hs hp hop hcal hxs he) hm
    · split at hc <;> try (cases hc; done)
      split at hc <;> try (cases hc; done)
      split at hc <;> try (cases hc; done)
      split at hc <;> try (cases hc; done)
      simp only [Option.some.injEq] at hc; subst hc
      simp [evOp] at he
    · split at hc <;> try (cases hc; done)
      obtain ⟨s, hsz, rfl⟩ := map_some' hc
      simp [evOp] at he
  | _ => simp [compOp, hop] at hc

end
end Go.Ev
