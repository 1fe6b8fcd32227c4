/- It is proved that the reconciled times of any events are those of the reference, or that there are none; no condition beyond the statement's own. -/
import Derived.Test.YtmcaedjlglpdeaaRows
import Derived.Test.YtmcaedjlglpdeaaEvKW
namespace Go.Proofs.Ytmcaedjlglpdeaa
open Go Go.RowKit Go.Ev
set_option linter.unusedSimpArgs false
set_option linter.unusedVariables false
set_option maxRecDepth 20000
namespace Reconciles
open Go.ChangeShapes Go.WideShapes Go.ChangeAt Go.RowKit
theorem ev_of {es : List (List AV)} (h : ∀ r ∈ es, okAs [.int .u16, .int .u32, .int .u16, .int .u8, .int .u8, .int .u8, .bool, .int .u8, .int .u8, .int .u8] r) : ∃ l : List E, es = evs l := by
  have key : ∀ r ∈ es, ∃ x : E, r = x.cs ∧ True := by
    intro r hr
    obtain ⟨a, _, rfl, _, k0⟩ := un_int (h r hr)
    obtain ⟨b, _, rfl, _, k1⟩ := un_int k0
    obtain ⟨c, _, rfl, _, k2⟩ := un_int k1
    obtain ⟨d, _, rfl, _, k3⟩ := un_int k2
    obtain ⟨e, _, rfl, _, k4⟩ := un_int k3
    obtain ⟨f, _, rfl, _, k5⟩ := un_int k4
    obtain ⟨g, _, rfl, k6⟩ := un_bool k5
    obtain ⟨i, _, rfl, _, k7⟩ := un_int k6
    obtain ⟨j, _, rfl, _, k8⟩ := un_int k7
    obtain ⟨k, _, rfl, _, k9⟩ := un_int k8
    obtain rfl := okAs_unnil k9
    exact ⟨⟨a, b, c, d, e, f, g, i, j, k⟩, rfl, trivial⟩
  obtain ⟨l, hl, _⟩ := ex_map key
  exact ⟨l, hl⟩
open Classical in
noncomputable def CF (l : List E) (L : List Int) : List AV → List AV → Option (Prop × AV × List AV) := fun _ ys => if ys = [.lst [.int .u16 0, .int .u32 0, .int .u16 0, .int .u8 0, .int .u8 0, .int .u8 0, .bool false, .int .u8 0, .int .u8 0, .int .u8 0] (evs l), .lst [.int .i64 0] (i64s L)] then some (True, .bool true, []) else none
theorem sF (l : List E) (L : List Int)  : Sound Try.prog 6 (.mk false (CF l L)) :=
  sound_pureI (by kernel_rfl) h10 Try.func6 rfl rc6_ok rv6_ok (by
  intro xs q r cs' h _
  unfold CF at h
  split at h
  · rename_i e'; subst e'
    cases h
    exact ⟨I6 l L, rfl, Nat.le_of_ble_eq_true rfl, walk6 rfl rfl rfl rfl rfl rfl rfl rfl rfl l L⟩
  · cases h)
theorem own : ownKnob Try.prog.godebug = none := by kernel_rfl
theorem laidOut : laidOutB Try.prog = true := by kernel_rfl
set_option maxRecDepth 100000 in
theorem lifted (os : Os) (started : os.Started) (H : Type) (enc : TypeId × Value → H) :
    ReturnsInHanded {} Try.checked os 6 .any (Rows.clockReconcilesSpec.pre6 enc Try.prog Try.f6 Rows.clockReconcilesRow.domain false) (Rows.clockReconcilesSpec.post enc Try.prog Try.f6 false true false false) := by
  refine returnsInHanded_of_change (C := Try.checked) own started (by kernel_rfl) Try.func6
    (ChangeSpec.witness6 (enc := enc) (C := Try.checked) false ⟨#[], #[(.slice none 0 0), (.slice none 0 0)], []⟩ 8 (by kernel_rfl) (by kernel_rfl) (by kernel_rfl) (by kernel_rfl)) ?_
  intro W base args ds gs before hval0 hW hcnd _
  have hval : ∀ (j : Nat) t v, Try.f6.params[j]? = some t → args[j]? = some v → Value.okWide Try.prog W .any base t v := hval0
  have hW' := hW
  obtain ⟨p, q, hA0, hV, rfl, hfz, hnd⟩ := hW
  have hA : DataW.TrodAll enc Try.prog W 0 (fun _ => true) true Try.f6.params.toList args.toList ds p := hA0
  rw [Try.params6] at hA hval
  obtain ⟨v0, vs0, d0, ds0, p0, q0, hargs, rfl, rfl, h0, r0⟩ := trodAll_cons hA
  obtain ⟨v1, vs1, d1, ds1, p1, q1, rfl, rfl, rfl, h1, r1⟩ := trodAll_cons r0
  obtain ⟨rfl, rfl, rfl⟩ := trodAll_nil r1
  obtain rfl : args = #[v0, v1] := by cases args; simp_all
  obtain ⟨rfl, rfl⟩ := trodVars_none hV
  have lt0 : ∀ x ∈ p0, x.block < W.heap.size := by obtain ⟨m, hm⟩ := h0; exact DataW.trod_lt m _ _ _ hm
  have lt1 : ∀ x ∈ p1, x.block < W.heap.size := by obtain ⟨m, hm⟩ := h1; exact DataW.trod_lt m _ _ _ hm
  have hZ : ∀ b, b < W.heap.size → (fun b => b < W.heap.size) b := fun _ h => h
  obtain ⟨a0, l0, w0, e0⟩ := arg_sl hZ Try.underlying37 8 (D := [.int .u16, .int .u32, .int .u16, .int .u8, .int .u8, .int .u8, .bool, .int .u8, .int .u8, .int .u8]) (by kernel_rfl) (hval 0 37 v0 rfl rfl) h0
  obtain ⟨a1, l1, w1, e1⟩ := arg_sl hZ Try.underlying43 8 (D := [.int .i64]) (by kernel_rfl) (hval 1 43 v1 rfl rfl) h1
  clear hA0 hval0
  obtain ⟨l, rfl⟩ := ev_of w0
  obtain ⟨L, rfl⟩ := Go.Ev.ex_i64s w1
  have hS := sF l L
  have hC : CF l L [] [.lst [.int .u16 0, .int .u32 0, .int .u16 0, .int .u8 0, .int .u8 0, .int .u8 0, .bool false, .int .u8 0, .int .u8 0, .int .u8 0] (evs l), .lst [.int .i64 0] (i64s L)] = some (True, .bool true, []) := by simp [CF]
  have hq := True.intro
  refine (law_calls hS (Reps.cons' e0 (Reps.cons' e1 Reps.nil')) hC hq).mono fun e W' ⟨he, bel⟩ => ?_
  subst he
  exact ⟨_, rfl, _, _, _, [], _, [], hW', trodAll_mk1 (shut_bool Try.underlying4 _), (trodAll_cons_mk (Below.trod laidOut (by kernel_rfl) (of_decide_eq_true (by kernel_rfl)) h0 bel lt0) (trodAll_cons_mk (Below.trod laidOut (by kernel_rfl) (of_decide_eq_true (by kernel_rfl)) h1 bel lt1) trodAll_mk0)), rfl, bel.frame _, fun h => by cases h⟩

theorem over : Rows.clockReconcilesRow.holds Try.pinned (OpenSpec.ofChange Rows.clockReconcilesSpec) :=
  OpenClaim.holds_of_wide 6 Try.f6 rfl rfl rfl rfl rfl rfl rfl ⟨rfl, rfl, rfl, rfl, rfl⟩ rfl rfl rfl rfl rfl (by kernel_rfl) Try.func6 (by kernel_rfl)
    (of_decide_eq_true (by kernel_rfl)) (by unfold Func.isWrapper; first | (rw [if_pos (by decide +kernel)]; kernel_rfl) | (rw [if_neg (by decide +kernel)]; exact ⟨rfl, rfl⟩))
    (fun os started H enc _ => lifted os started H enc)
theorem proved : Rows.ClockReconcilesSaid := over
#print axioms proved
end Reconciles
end Go.Proofs.Ytmcaedjlglpdeaa
