/- FanAnswers: both sides are walked to the same plain functions -/
import Derived.Test.YtofldhooanikcaaRows
import Derived.Test.YtofldhooanikcaaEvFK
import Derived.Test.YtofldhooanikcaaEvFP
namespace Go.Proofs.Ytofldhooanikcaa
open Go Go.RowKit Go.Ev
set_option linter.unusedSimpArgs false
set_option linter.unusedVariables false
set_option maxRecDepth 20000
namespace Answers
open Go.ChangeShapes Go.WideShapes Go.ChangeAt Go.RowKit
open Classical in
noncomputable def CF (L : List Int) (z0 : Zn) (s0 : Sp) (rs0 : List Int) (ks0 : List Bool) (e0 : Int) : List AV → List AV → Option (Prop × AV × List AV) := fun _ ys => if ys = [.lst [.int .u8 0] (u8s L), z0.av, s0.av, .lst [.int .i64 0] (i64s rs0), .lst [.bool false] (bls ks0), .int .i64 e0] then some (True, .bool true, []) else none
theorem sF (L : List Int) (z0 : Zn) (s0 : Sp) (rs0 : List Int) (ks0 : List Bool) (e0 : Int) (hL : Okb L) (he : -9223372036854775808 ≤ e0 ∧ e0 ≤ 9223372036854775807) : Sound Try.prog 3 (.mk false (CF L z0 s0 rs0 ks0 e0)) :=
  sound_pureI (by kernel_rfl) h6 Try.func3 rfl rc3_ok rv3_ok (by
  intro xs q r cs' h _
  unfold CF at h
  split at h
  · rename_i e'; subst e'
    cases h
    exact ⟨noI, rfl, Nat.le_of_ble_eq_true rfl, walk3 rfl rfl rfl rfl rfl rfl rfl L hL z0 s0 rs0 ks0 e0 he⟩
  · cases h)
theorem own : ownKnob Try.prog.godebug = none := by kernel_rfl
theorem laidOut : laidOutB Try.prog = true := by kernel_rfl
set_option maxRecDepth 100000 in
theorem lifted (os : Os) (started : os.Started) (H : Type) (enc : TypeId × Value → H) :
    ReturnsInHanded {} Try.checked os 3 .any (Rows.fanAnswersSpec.pre6 enc Try.prog Try.f3 Rows.fanAnswersRow.domain false) (Rows.fanAnswersSpec.post enc Try.prog Try.f3 false true false false) := by
  refine returnsInHanded_of_change (C := Try.checked) own started (by kernel_rfl) Try.func3
    (ChangeSpec.witness6 (enc := enc) (C := Try.checked) false ⟨#[], #[(.slice none 0 0), (.agg #[.slice none 0 0, .int .i64 0, .int .i64 0, .int .i64 0, .int .i64 0, .int .i64 0, .int .i64 0]), (.agg #[.int .i64 0, .int .i64 0]), (.slice none 0 0), (.slice none 0 0), (.int .i64 0)], []⟩ 8 (by kernel_rfl) (by kernel_rfl) (by kernel_rfl) (by kernel_rfl)) ?_
  intro W base args ds gs before hval0 hW hcnd _
  have hval : ∀ (j : Nat) t v, Try.f3.params[j]? = some t → args[j]? = some v → Value.okWide Try.prog W .any base t v := hval0
  have hW' := hW
  obtain ⟨p, q, hA0, hV, rfl, hfz, hnd⟩ := hW
  have hA : DataW.TrodAll enc Try.prog W 0 (fun _ => true) true Try.f3.params.toList args.toList ds p := hA0
  rw [Try.params3] at hA hval
  obtain ⟨v0, vs0, d0, ds0, p0, q0, hargs, rfl, rfl, h0, r0⟩ := trodAll_cons hA
  obtain ⟨v1, vs1, d1, ds1, p1, q1, rfl, rfl, rfl, h1, r1⟩ := trodAll_cons r0
  obtain ⟨v2, vs2, d2, ds2, p2, q2, rfl, rfl, rfl, h2, r2⟩ := trodAll_cons r1
  obtain ⟨v3, vs3, d3, ds3, p3, q3, rfl, rfl, rfl, h3, r3⟩ := trodAll_cons r2
  obtain ⟨v4, vs4, d4, ds4, p4, q4, rfl, rfl, rfl, h4, r4⟩ := trodAll_cons r3
  obtain ⟨v5, vs5, d5, ds5, p5, q5, rfl, rfl, rfl, h5, r5⟩ := trodAll_cons r4
  obtain ⟨rfl, rfl, rfl⟩ := trodAll_nil r5
  obtain rfl : args = #[v0, v1, v2, v3, v4, v5] := by cases args; simp_all
  obtain ⟨rfl, rfl⟩ := trodVars_none hV
  have lt0 : ∀ x ∈ p0, x.block < W.heap.size := by obtain ⟨m, hm⟩ := h0; exact DataW.trod_lt m _ _ _ hm
  have lt1 : ∀ x ∈ p1, x.block < W.heap.size := by obtain ⟨m, hm⟩ := h1; exact DataW.trod_lt m _ _ _ hm
  have lt2 : ∀ x ∈ p2, x.block < W.heap.size := by obtain ⟨m, hm⟩ := h2; exact DataW.trod_lt m _ _ _ hm
  have lt3 : ∀ x ∈ p3, x.block < W.heap.size := by obtain ⟨m, hm⟩ := h3; exact DataW.trod_lt m _ _ _ hm
  have lt4 : ∀ x ∈ p4, x.block < W.heap.size := by obtain ⟨m, hm⟩ := h4; exact DataW.trod_lt m _ _ _ hm
  have lt5 : ∀ x ∈ p5, x.block < W.heap.size := by obtain ⟨m, hm⟩ := h5; exact DataW.trod_lt m _ _ _ hm
  have hZ : ∀ b, b < W.heap.size → (fun b => b < W.heap.size) b := fun _ h => h
  obtain ⟨a0, l0, w0, e0⟩ := arg_sl hZ Try.underlying22 8 (D := [.int .u8]) (by kernel_rfl) (hval 0 22 v0 rfl rfl) h0
  obtain ⟨a1, w1, e1⟩ := arg_agg hZ Try.underlying24 8 (D := [.sl [.int .u8], .int .i64, .int .i64, .int .i64, .int .i64, .int .i64, .int .i64]) (by kernel_rfl) (hval 1 24 v1 rfl rfl) h1
  obtain ⟨a2, w2, e2⟩ := arg_agg hZ Try.underlying26 8 (D := [.int .i64, .int .i64]) (by kernel_rfl) (hval 2 26 v2 rfl rfl) h2
  obtain ⟨a3, l3, w3, e3⟩ := arg_sl hZ Try.underlying27 8 (D := [.int .i64]) (by kernel_rfl) (hval 3 27 v3 rfl rfl) h3
  obtain ⟨a4, l4, w4, e4⟩ := arg_sl hZ Try.underlying28 8 (D := [.bool]) (by kernel_rfl) (hval 4 28 v4 rfl rfl) h4
  obtain ⟨a5, w5, e5⟩ := arg_int hZ Try.underlying3 (hval 5 3 v5 rfl rfl) h5
  clear hA0 hval0
  obtain ⟨L, rfl, hL⟩ := ex_u8s w0
  obtain ⟨z, hz⟩ := zn_of w1
  rw [hz] at e1
  obtain ⟨s, hs⟩ := sp_of w2
  rw [hs] at e2
  obtain ⟨rs, rfl⟩ := ex_i64s w3
  obtain ⟨ks, rfl⟩ := ex_bls w4
  have hS := sF L z s rs ks a5 hL (bounds_i64 w5)
  have hC : CF L z s rs ks a5 [] [.lst [.int .u8 0] (u8s L), z.av, s.av, .lst [.int .i64 0] (i64s rs), .lst [.bool false] (bls ks), .int .i64 a5] = some (True, .bool true, []) := by simp [CF]
  have hq := True.intro
  refine (law_calls hS (Reps.cons' e0 (Reps.cons' e1 (Reps.cons' e2 (Reps.cons' e3 (Reps.cons' e4 (Reps.cons' e5 Reps.nil')))))) hC hq).mono fun e W' ⟨he, bel⟩ => ?_
  subst he
  exact ⟨_, rfl, _, _, _, [], _, [], hW', trodAll_mk1 (shut_bool Try.underlying4 _), (trodAll_cons_mk (Below.trod laidOut (by kernel_rfl) (of_decide_eq_true (by kernel_rfl)) h0 bel lt0) (trodAll_cons_mk (Below.trod laidOut (by kernel_rfl) (of_decide_eq_true (by kernel_rfl)) h1 bel lt1) (trodAll_cons_mk (Below.trod laidOut (by kernel_rfl) (of_decide_eq_true (by kernel_rfl)) h2 bel lt2) (trodAll_cons_mk (Below.trod laidOut (by kernel_rfl) (of_decide_eq_true (by kernel_rfl)) h3 bel lt3) (trodAll_cons_mk (Below.trod laidOut (by kernel_rfl) (of_decide_eq_true (by kernel_rfl)) h4 bel lt4) (trodAll_cons_mk (Below.trod laidOut (by kernel_rfl) (of_decide_eq_true (by kernel_rfl)) h5 bel lt5) trodAll_mk0)))))), rfl, bel.frame _, fun h => by cases h⟩

theorem over : Rows.fanAnswersRow.holds Try.pinned (OpenSpec.ofChange Rows.fanAnswersSpec) :=
  OpenClaim.holds_of_wide 3 Try.f3 rfl rfl rfl rfl rfl rfl rfl ⟨rfl, rfl, rfl, rfl, rfl⟩ rfl rfl rfl rfl rfl (by kernel_rfl) Try.func3 (by kernel_rfl)
    (of_decide_eq_true (by kernel_rfl)) (by unfold Func.isWrapper; first | (rw [if_pos (by decide +kernel)]; kernel_rfl) | (rw [if_neg (by decide +kernel)]; exact ⟨rfl, rfl⟩))
    (fun os started H enc _ => lifted os started H enc)
theorem proved : Rows.FanAnswersSaid := over
#print axioms proved
end Answers
end Go.Proofs.Ytofldhooanikcaa
