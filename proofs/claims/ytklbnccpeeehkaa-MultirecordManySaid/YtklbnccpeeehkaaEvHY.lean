/- The statement MultirecordMany holds of the given program. -/
import Derived.Test.YtklbnccpeeehkaaRows
import Derived.Test.YtklbnccpeeehkaaEvHX
namespace Go.Proofs.Ytklbnccpeeehkaa
open Go Go.RowKit Go.Ev
set_option linter.unusedSimpArgs false
set_option linter.unusedVariables false
set_option maxRecDepth 20000
namespace Many
open Go.ChangeShapes Go.WideShapes Go.ChangeAt Go.RowKit
open Classical in
noncomputable def CF (a b : Int) : List AV → List AV → Option (Prop × AV × List AV) := fun _ ys => if ys = [.int .i64 a, .int .i64 b] then some (True, .bool true, []) else none
theorem sF (a b : Int)  : Sound Try.prog 7 (.mk false (CF a b)) :=
  sound_pureI (by kernel_rfl) hM Try.func7 rfl rc7_ok rv7_ok (by
  intro xs q r cs' h _
  unfold CF at h
  split at h
  · rename_i e'; subst e'
    cases h
    exact ⟨I7 (nM a) (kM b), rfl, Nat.le_of_ble_eq_true rfl, walk7 rfl rfl rfl rfl rfl rfl rfl a b⟩
  · cases h)
theorem own : ownKnob Try.prog.godebug = none := by kernel_rfl
theorem laidOut : laidOutB Try.prog = true := by kernel_rfl
set_option maxRecDepth 100000 in
theorem lifted (os : Os) (started : os.Started) (H : Type) (enc : TypeId × Value → H) :
    ReturnsInHanded {} Try.checked os 7 .any (Rows.multirecordManySpec.pre6 enc Try.prog Try.f7 Rows.multirecordManyRow.domain false) (Rows.multirecordManySpec.post enc Try.prog Try.f7 false true false false) := by
  refine returnsInHanded_of_change (C := Try.checked) own started (by kernel_rfl) Try.func7
    (ChangeSpec.witness6 (enc := enc) (C := Try.checked) false ⟨#[], #[(.int .i64 0), (.int .i64 0)], []⟩ 8 (by kernel_rfl) (by kernel_rfl) (by kernel_rfl) (by kernel_rfl)) ?_
  intro W base args ds gs before hval0 hW hcnd _
  have hval : ∀ (j : Nat) t v, Try.f7.params[j]? = some t → args[j]? = some v → Value.okWide Try.prog W .any base t v := hval0
  have hW' := hW
  obtain ⟨p, q, hA0, hV, rfl, hfz, hnd⟩ := hW
  have hA : DataW.TrodAll enc Try.prog W 0 (fun _ => true) true Try.f7.params.toList args.toList ds p := hA0
  rw [Try.params7] at hA hval
  obtain ⟨v0, vs0, d0, ds0, p0, q0, hargs, rfl, rfl, h0, r0⟩ := trodAll_cons hA
  obtain ⟨v1, vs1, d1, ds1, p1, q1, rfl, rfl, rfl, h1, r1⟩ := trodAll_cons r0
  obtain ⟨rfl, rfl, rfl⟩ := trodAll_nil r1
  obtain rfl : args = #[v0, v1] := by cases args; simp_all
  obtain ⟨rfl, rfl⟩ := trodVars_none hV
  have lt0 : ∀ x ∈ p0, x.block < W.heap.size := by obtain ⟨m, hm⟩ := h0; exact DataW.trod_lt m _ _ _ hm
  have lt1 : ∀ x ∈ p1, x.block < W.heap.size := by obtain ⟨m, hm⟩ := h1; exact DataW.trod_lt m _ _ _ hm
  have hZ : ∀ b, b < W.heap.size → (fun b => b < W.heap.size) b := fun _ h => h
  obtain ⟨a0, w0, e0⟩ := arg_int hZ Try.underlying3 (hval 0 3 v0 rfl rfl) h0
  obtain ⟨a1, w1, e1⟩ := arg_int hZ Try.underlying3 (hval 1 3 v1 rfl rfl) h1
  clear hA0 hval0
  have hS := sF a0 a1
  have hC : CF a0 a1 [] [.int .i64 a0, .int .i64 a1] = some (True, .bool true, []) := by simp [CF]
  have hq := True.intro
  refine (law_calls hS (Reps.cons' e0 (Reps.cons' e1 Reps.nil')) hC hq).mono fun e W' ⟨he, bel⟩ => ?_
  subst he
  exact ⟨_, rfl, _, _, _, [], _, [], hW', trodAll_mk1 (shut_bool Try.underlying4 _), (trodAll_cons_mk (Below.trod laidOut (by kernel_rfl) (of_decide_eq_true (by kernel_rfl)) h0 bel lt0) (trodAll_cons_mk (Below.trod laidOut (by kernel_rfl) (of_decide_eq_true (by kernel_rfl)) h1 bel lt1) trodAll_mk0)), rfl, bel.frame _, fun h => by cases h⟩

theorem over : Rows.multirecordManyRow.holds Try.pinned (OpenSpec.ofChange Rows.multirecordManySpec) :=
  OpenClaim.holds_of_wide 7 Try.f7 rfl rfl rfl rfl rfl rfl rfl ⟨rfl, rfl, rfl, rfl, rfl⟩ rfl rfl rfl rfl rfl (by kernel_rfl) Try.func7 (by kernel_rfl)
    (of_decide_eq_true (by kernel_rfl)) (by unfold Func.isWrapper; first | (rw [if_pos (by decide +kernel)]; kernel_rfl) | (rw [if_neg (by decide +kernel)]; exact ⟨rfl, rfl⟩))
    (fun os started H enc _ => lifted os started H enc)
theorem proved : Rows.MultirecordManySaid := over
#print axioms proved
end Many
end Go.Proofs.Ytklbnccpeeehkaa
