/- The statement ConsoleAnswers holds of the given program. -/
import Derived.Test.YtknapnleecepaaaRows
import Derived.Test.YtknapnleecepaaaEvJX
namespace Go.Proofs.Ytknapnleecepaaa
open Go Go.RowKit Go.Ev
set_option linter.unusedSimpArgs false
set_option linter.unusedVariables false
set_option maxRecDepth 20000
namespace Answers
open Go.ChangeShapes Go.WideShapes Go.ChangeAt Go.RowKit
open Classical in
noncomputable def CF (l raw data : List Int) (m : Int) : List AV → List AV → Option (Prop × AV × List AV) := fun _ ys => if ys = [.lst [.int .u8 0] (u8s l), .lst [.int .u8 0] (u8s raw), .lst [.int .u8 0] (u8s data), .int .i64 m] then some (True, .bool true, []) else none
theorem sF (l raw data : List Int) (m : Int) (hL : Okb l) (hraw : Okb raw) (hdata : Okb data) : Sound Try.prog 5 (.mk false (CF l raw data m)) :=
  sound_pureI (by kernel_rfl) hT5 Try.func5 rfl rc5_ok rv5_ok (by
  intro xs q r cs' h _
  unfold CF at h
  split at h
  · rename_i e'; subst e'
    cases h
    exact ⟨I5 raw data m (l.take 300), rfl, Nat.le_of_ble_eq_true rfl, walk5 rfl rfl rfl rfl rfl rfl rfl rfl rfl rfl rfl rfl rfl rfl rfl rfl rfl rfl l raw data m hL hraw hdata (hL.take 300)⟩
  · cases h)
theorem own : ownKnob Try.prog.godebug = none := by kernel_rfl
theorem laidOut : laidOutB Try.prog = true := by kernel_rfl
set_option maxRecDepth 100000 in
theorem lifted (os : Os) (started : os.Started) (H : Type) (enc : TypeId × Value → H) :
    ReturnsInHanded {} Try.checked os 5 .any (Rows.consoleAnswersSpec.pre6 enc Try.prog Try.f5 Rows.consoleAnswersRow.domain false) (Rows.consoleAnswersSpec.post enc Try.prog Try.f5 false true false false) := by
  refine returnsInHanded_of_change (C := Try.checked) own started (by kernel_rfl) Try.func5
    (ChangeSpec.witness6 (enc := enc) (C := Try.checked) false ⟨#[], #[(.slice none 0 0), (.slice none 0 0), (.slice none 0 0), (.int .i64 0)], []⟩ 8 (by kernel_rfl) (by kernel_rfl) (by kernel_rfl) (by kernel_rfl)) ?_
  intro W base args ds gs before hval0 hW hcnd _
  have hval : ∀ (j : Nat) t v, Try.f5.params[j]? = some t → args[j]? = some v → Value.okWide Try.prog W .any base t v := hval0
  have hW' := hW
  obtain ⟨p, q, hA0, hV, rfl, hfz, hnd⟩ := hW
  have hA : DataW.TrodAll enc Try.prog W 0 (fun _ => true) true Try.f5.params.toList args.toList ds p := hA0
  rw [Try.params5] at hA hval
  obtain ⟨v0, vs0, d0, ds0, p0, q0, hargs, rfl, rfl, h0, r0⟩ := trodAll_cons hA
  obtain ⟨v1, vs1, d1, ds1, p1, q1, rfl, rfl, rfl, h1, r1⟩ := trodAll_cons r0
  obtain ⟨v2, vs2, d2, ds2, p2, q2, rfl, rfl, rfl, h2, r2⟩ := trodAll_cons r1
  obtain ⟨v3, vs3, d3, ds3, p3, q3, rfl, rfl, rfl, h3, r3⟩ := trodAll_cons r2
  obtain ⟨rfl, rfl, rfl⟩ := trodAll_nil r3
  obtain rfl : args = #[v0, v1, v2, v3] := by cases args; simp_all
  obtain ⟨rfl, rfl⟩ := trodVars_none hV
  have lt0 : ∀ x ∈ p0, x.block < W.heap.size := by obtain ⟨m, hm⟩ := h0; exact DataW.trod_lt m _ _ _ hm
  have lt1 : ∀ x ∈ p1, x.block < W.heap.size := by obtain ⟨m, hm⟩ := h1; exact DataW.trod_lt m _ _ _ hm
  have lt2 : ∀ x ∈ p2, x.block < W.heap.size := by obtain ⟨m, hm⟩ := h2; exact DataW.trod_lt m _ _ _ hm
  have lt3 : ∀ x ∈ p3, x.block < W.heap.size := by obtain ⟨m, hm⟩ := h3; exact DataW.trod_lt m _ _ _ hm
  have hZ : ∀ b, b < W.heap.size → (fun b => b < W.heap.size) b := fun _ h => h
  obtain ⟨a0, l0, w0, e0⟩ := arg_sl hZ Try.underlying22 8 (D := [.int .u8]) (by kernel_rfl) (hval 0 22 v0 rfl rfl) h0
  obtain ⟨a1, l1, w1, e1⟩ := arg_sl hZ Try.underlying22 8 (D := [.int .u8]) (by kernel_rfl) (hval 1 22 v1 rfl rfl) h1
  obtain ⟨a2, l2, w2, e2⟩ := arg_sl hZ Try.underlying22 8 (D := [.int .u8]) (by kernel_rfl) (hval 2 22 v2 rfl rfl) h2
  obtain ⟨a3, w3, e3⟩ := arg_int hZ Try.underlying3 (hval 3 3 v3 rfl rfl) h3
  clear hA0 hval0
  obtain ⟨A, rfl, hA⟩ := ex_u8s w0
  obtain ⟨B, rfl, hB⟩ := ex_u8s w1
  obtain ⟨D, rfl, hD⟩ := ex_u8s w2
  have hS := sF A B D a3 hA hB hD
  have hC : CF A B D a3 [] [.lst [.int .u8 0] (u8s A), .lst [.int .u8 0] (u8s B), .lst [.int .u8 0] (u8s D), .int .i64 a3] = some (True, .bool true, []) := by simp [CF]
  have hq := True.intro
  refine (law_calls hS (Reps.cons' e0 (Reps.cons' e1 (Reps.cons' e2 (Reps.cons' e3 Reps.nil')))) hC hq).mono fun e W' ⟨he, bel⟩ => ?_
  subst he
  exact ⟨_, rfl, _, _, _, [], _, [], hW', trodAll_mk1 (shut_bool Try.underlying4 _), (trodAll_cons_mk (Below.trod laidOut (by kernel_rfl) (of_decide_eq_true (by kernel_rfl)) h0 bel lt0) (trodAll_cons_mk (Below.trod laidOut (by kernel_rfl) (of_decide_eq_true (by kernel_rfl)) h1 bel lt1) (trodAll_cons_mk (Below.trod laidOut (by kernel_rfl) (of_decide_eq_true (by kernel_rfl)) h2 bel lt2) (trodAll_cons_mk (Below.trod laidOut (by kernel_rfl) (of_decide_eq_true (by kernel_rfl)) h3 bel lt3) trodAll_mk0)))), rfl, bel.frame _, fun h => by cases h⟩

theorem over : Rows.consoleAnswersRow.holds Try.pinned (OpenSpec.ofChange Rows.consoleAnswersSpec) :=
  OpenClaim.holds_of_wide 5 Try.f5 rfl rfl rfl rfl rfl rfl rfl ⟨rfl, rfl, rfl, rfl, rfl⟩ rfl rfl rfl rfl rfl (by kernel_rfl) Try.func5 (by kernel_rfl)
    (of_decide_eq_true (by kernel_rfl)) (by unfold Func.isWrapper; first | (rw [if_pos (by decide +kernel)]; kernel_rfl) | (rw [if_neg (by decide +kernel)]; exact ⟨rfl, rfl⟩))
    (fun os started H enc _ => lifted os started H enc)
theorem proved : Rows.ConsoleAnswersSaid := over
#print axioms proved
end Answers
end Go.Proofs.Ytknapnleecepaaa
