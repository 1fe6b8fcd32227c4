/- RouteForwards: a message that goes where Next says arrives, and each bridge makes the distance less by 1. Conditions: none. -/
import Derived.Test.YteakklbbdfgbdaaRows
import Derived.Test.YteakklbbdfgbdaaEvSD
import Derived.Test.YteakklbbdfgbdaaEvSC
namespace Go.Proofs.Yteakklbbdfgbdaa
open Go Go.RowKit Go.Ev
set_option linter.unusedSimpArgs false
set_option linter.unusedVariables false
set_option maxRecDepth 20000
namespace Forwards
open Go.ChangeShapes Go.WideShapes Go.ChangeAt Go.RowKit
open Classical in
noncomputable def CF (L : List Int) : List AV → List AV → Option (Prop × AV × List AV) := fun _ ys => if ys = [.lst [.int .u8 0] (u8s L)] then some (True, .bool true, []) else none
theorem sF (L : List Int) (hL : Okb L) : Sound Try.prog 7 (.mk false (CF L)) :=
  sound_pureI (by kernel_rfl) h7 Try.func7 rfl rc7_ok rv7_ok (by
  intro xs q r cs' h _
  unfold CF at h
  split at h
  · rename_i e'; subst e'
    cases h
    exact ⟨I7 L, rfl, Nat.le_of_ble_eq_true rfl, walk7 rfl rfl rfl rfl rfl rfl rfl rfl rfl L hL⟩
  · cases h)
theorem own : ownKnob Try.prog.godebug = none := by kernel_rfl
theorem laidOut : laidOutB Try.prog = true := by kernel_rfl
set_option maxRecDepth 100000 in
theorem lifted (os : Os) (started : os.Started) (H : Type) (enc : TypeId × Value → H) :
    ReturnsInHanded {} Try.checked os 7 .any (Rows.routeForwardsSpec.pre6 enc Try.prog Try.f7 Rows.routeForwardsRow.domain false) (Rows.routeForwardsSpec.post enc Try.prog Try.f7 false true false false) := by
  refine returnsInHanded_of_change (C := Try.checked) own started (by kernel_rfl) Try.func7
    (ChangeSpec.witness6 (enc := enc) (C := Try.checked) false ⟨#[], #[(.slice none 0 0)], []⟩ 8 (by kernel_rfl) (by kernel_rfl) (by kernel_rfl) (by kernel_rfl)) ?_
  intro W base args ds gs before hval0 hW hcnd _
  have hval : ∀ (j : Nat) t v, Try.f7.params[j]? = some t → args[j]? = some v → Value.okWide Try.prog W .any base t v := hval0
  have hW' := hW
  obtain ⟨p, q, hA0, hV, rfl, hfz, hnd⟩ := hW
  have hA : DataW.TrodAll enc Try.prog W 0 (fun _ => true) true Try.f7.params.toList args.toList ds p := hA0
  rw [Try.params7] at hA hval
  obtain ⟨v0, vs0, d0, ds0, p0, q0, hargs, rfl, rfl, h0, r0⟩ := trodAll_cons hA
  obtain ⟨rfl, rfl, rfl⟩ := trodAll_nil r0
  obtain rfl : args = #[v0] := by cases args; simp_all
  obtain ⟨rfl, rfl⟩ := trodVars_none hV
  have lt0 : ∀ x ∈ p0, x.block < W.heap.size := by obtain ⟨m, hm⟩ := h0; exact DataW.trod_lt m _ _ _ hm
  have hZ : ∀ b, b < W.heap.size → (fun b => b < W.heap.size) b := fun _ h => h
  obtain ⟨a0, l0, w0, e0⟩ := arg_sl hZ Try.underlying22 8 (D := [.int .u8]) (by kernel_rfl) (hval 0 22 v0 rfl rfl) h0
  clear hA0 hval0
  obtain ⟨L, rfl, hL⟩ := ex_u8s w0
  have hS := sF L hL
  have hC : CF L [] [.lst [.int .u8 0] (u8s L)] = some (True, .bool true, []) := by simp [CF]
  have hq := True.intro
  refine (law_calls hS (Reps.cons' e0 Reps.nil') hC hq).mono fun e W' ⟨he, bel⟩ => ?_
  subst he
  exact ⟨_, rfl, _, _, _, [], _, [], hW', trodAll_mk1 (shut_bool Try.underlying4 _), (trodAll_cons_mk (Below.trod laidOut (by kernel_rfl) (of_decide_eq_true (by kernel_rfl)) h0 bel lt0) trodAll_mk0), rfl, bel.frame _, fun h => by cases h⟩

theorem over : Rows.routeForwardsRow.holds Try.pinned (OpenSpec.ofChange Rows.routeForwardsSpec) :=
  OpenClaim.holds_of_wide 7 Try.f7 rfl rfl rfl rfl rfl rfl rfl ⟨rfl, rfl, rfl, rfl, rfl⟩ rfl rfl rfl rfl rfl (by kernel_rfl) Try.func7 (by kernel_rfl)
    (of_decide_eq_true (by kernel_rfl)) (by unfold Func.isWrapper; first | (rw [if_pos (by decide +kernel)]; kernel_rfl) | (rw [if_neg (by decide +kernel)]; exact ⟨rfl, rfl⟩))
    (fun os started H enc _ => lifted os started H enc)
theorem proved : Rows.RouteForwardsSaid := over
#print axioms proved
end Forwards
end Go.Proofs.Yteakklbbdfgbdaa
