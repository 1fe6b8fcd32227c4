/- RouteLines: on a row of buses the distance is the number of bridges between, and ErrHops beyond MaxHops. Conditions: none. -/
import Derived.Test.YteakklbbdfgbdaaRows
import Derived.Test.YteakklbbdfgbdaaEvRW
import Derived.Test.YteakklbbdfgbdaaEvRU
namespace Go.Proofs.Yteakklbbdfgbdaa
open Go Go.RowKit Go.Ev
set_option linter.unusedSimpArgs false
set_option linter.unusedVariables false
set_option maxRecDepth 20000
namespace Lines
open Go.ChangeShapes Go.WideShapes Go.ChangeAt Go.RowKit
open Classical in
noncomputable def CF (u f g : Int) : List AV → List AV → Option (Prop × AV × List AV) := fun _ ys => if ys = [.int .u8 u, .int .u8 f, .int .u8 g] then some (True, .bool true, []) else none
theorem sF (u f g : Int) (hu : 0 ≤ u ∧ u ≤ 255) (hf : 0 ≤ f ∧ f ≤ 255) (hg : 0 ≤ g ∧ g ≤ 255) : Sound Try.prog 8 (.mk false (CF u f g)) :=
  sound_pureI (by kernel_rfl) hQ Try.func8 rfl rc8_ok rv8_ok (by
  intro xs q r cs' h _
  unfold CF at h
  split at h
  · rename_i e'; subst e'
    cases h
    exact ⟨I8 u f g, rfl, Nat.le_of_ble_eq_true rfl, walk8 rfl rfl u f g hu hf hg⟩
  · cases h)
theorem own : ownKnob Try.prog.godebug = none := by kernel_rfl
theorem laidOut : laidOutB Try.prog = true := by kernel_rfl
set_option maxRecDepth 100000 in
theorem lifted (os : Os) (started : os.Started) (H : Type) (enc : TypeId × Value → H) :
    ReturnsInHanded {} Try.checked os 8 .any (Rows.routeLinesSpec.pre6 enc Try.prog Try.f8 Rows.routeLinesRow.domain false) (Rows.routeLinesSpec.post enc Try.prog Try.f8 false true false false) := by
  refine returnsInHanded_of_change (C := Try.checked) own started (by kernel_rfl) Try.func8
    (ChangeSpec.witness6 (enc := enc) (C := Try.checked) false ⟨#[], #[(.int .u8 0), (.int .u8 0), (.int .u8 0)], []⟩ 8 (by kernel_rfl) (by kernel_rfl) (by kernel_rfl) (by kernel_rfl)) ?_
  intro W base args ds gs before hval0 hW hcnd _
  have hval : ∀ (j : Nat) t v, Try.f8.params[j]? = some t → args[j]? = some v → Value.okWide Try.prog W .any base t v := hval0
  have hW' := hW
  obtain ⟨p, q, hA0, hV, rfl, hfz, hnd⟩ := hW
  have hA : DataW.TrodAll enc Try.prog W 0 (fun _ => true) true Try.f8.params.toList args.toList ds p := hA0
  rw [Try.params8] at hA hval
  obtain ⟨v0, vs0, d0, ds0, p0, q0, hargs, rfl, rfl, h0, r0⟩ := trodAll_cons hA
  obtain ⟨v1, vs1, d1, ds1, p1, q1, rfl, rfl, rfl, h1, r1⟩ := trodAll_cons r0
  obtain ⟨v2, vs2, d2, ds2, p2, q2, rfl, rfl, rfl, h2, r2⟩ := trodAll_cons r1
  obtain ⟨rfl, rfl, rfl⟩ := trodAll_nil r2
  obtain rfl : args = #[v0, v1, v2] := by cases args; simp_all
  obtain ⟨rfl, rfl⟩ := trodVars_none hV
  have lt0 : ∀ x ∈ p0, x.block < W.heap.size := by obtain ⟨m, hm⟩ := h0; exact DataW.trod_lt m _ _ _ hm
  have lt1 : ∀ x ∈ p1, x.block < W.heap.size := by obtain ⟨m, hm⟩ := h1; exact DataW.trod_lt m _ _ _ hm
  have lt2 : ∀ x ∈ p2, x.block < W.heap.size := by obtain ⟨m, hm⟩ := h2; exact DataW.trod_lt m _ _ _ hm
  have hZ : ∀ b, b < W.heap.size → (fun b => b < W.heap.size) b := fun _ h => h
  obtain ⟨a0, w0, e0⟩ := arg_int hZ Try.underlying5 (hval 0 5 v0 rfl rfl) h0
  obtain ⟨a1, w1, e1⟩ := arg_int hZ Try.underlying5 (hval 1 5 v1 rfl rfl) h1
  obtain ⟨a2, w2, e2⟩ := arg_int hZ Try.underlying5 (hval 2 5 v2 rfl rfl) h2
  clear hA0 hval0
  have hS := sF a0 a1 a2 (bounds_u8 w0) (bounds_u8 w1) (bounds_u8 w2)
  have hC : CF a0 a1 a2 [] [.int .u8 a0, .int .u8 a1, .int .u8 a2] = some (True, .bool true, []) := by simp [CF]
  have hq := True.intro
  refine (law_calls hS (Reps.cons' e0 (Reps.cons' e1 (Reps.cons' e2 Reps.nil'))) hC hq).mono fun e W' ⟨he, bel⟩ => ?_
  subst he
  exact ⟨_, rfl, _, _, _, [], _, [], hW', trodAll_mk1 (shut_bool Try.underlying4 _), (trodAll_cons_mk (Below.trod laidOut (by kernel_rfl) (of_decide_eq_true (by kernel_rfl)) h0 bel lt0) (trodAll_cons_mk (Below.trod laidOut (by kernel_rfl) (of_decide_eq_true (by kernel_rfl)) h1 bel lt1) (trodAll_cons_mk (Below.trod laidOut (by kernel_rfl) (of_decide_eq_true (by kernel_rfl)) h2 bel lt2) trodAll_mk0))), rfl, bel.frame _, fun h => by cases h⟩

theorem over : Rows.routeLinesRow.holds Try.pinned (OpenSpec.ofChange Rows.routeLinesSpec) :=
  OpenClaim.holds_of_wide 8 Try.f8 rfl rfl rfl rfl rfl rfl rfl ⟨rfl, rfl, rfl, rfl, rfl⟩ rfl rfl rfl rfl rfl (by kernel_rfl) Try.func8 (by kernel_rfl)
    (of_decide_eq_true (by kernel_rfl)) (by unfold Func.isWrapper; first | (rw [if_pos (by decide +kernel)]; kernel_rfl) | (rw [if_neg (by decide +kernel)]; exact ⟨rfl, rfl⟩))
    (fun os started H enc _ => lifted os started H enc)
theorem proved : Rows.RouteLinesSaid := over
#print axioms proved
end Lines
end Go.Proofs.Yteakklbbdfgbdaa
