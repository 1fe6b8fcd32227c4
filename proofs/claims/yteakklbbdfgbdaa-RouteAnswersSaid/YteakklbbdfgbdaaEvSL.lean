/- RouteAnswers: Valid, Side, Distance, Next and Path return what the chapter specifies, for networks, also with one thing changed. Conditions: none. -/
import Derived.Test.YteakklbbdfgbdaaRows
import Derived.Test.YteakklbbdfgbdaaEvSK
namespace Go.Proofs.Yteakklbbdfgbdaa
open Go Go.RowKit Go.Ev
set_option linter.unusedSimpArgs false
set_option linter.unusedVariables false
set_option maxRecDepth 20000
namespace Answers
open Go.ChangeShapes Go.WideShapes Go.ChangeAt Go.RowKit
open Classical in
noncomputable def CF (L : List Int) (R : Nt) (ga gb gd : Int) : List AV → List AV → Option (Prop × AV × List AV) := fun _ ys => if ys = [.lst [.int .u8 0] (u8s L), .agg [.int .i64 R.N, .lst [.int .u8 0, .int .i64 0, .int .i64 0] (brs R.bs), .lst [.int .u8 0, .int .u8 0, .int .i64 0] (eps R.es)], .int .i64 ga, .int .i64 gb, .int .u8 gd] then some (True, .bool true, []) else none
theorem sF (L : List Int) (R : Nt) (ga gb gd : Int) (hL : Okb L) : Sound Try.prog 3 (.mk false (CF L R ga gb gd)) :=
  sound_pureI (by kernel_rfl) h3 Try.func3 rfl rc3_ok rv3_ok (by
  intro xs q r cs' h _
  unfold CF at h
  split at h
  · rename_i e'; subst e'
    cases h
    exact ⟨I3 L ga gb gd, rfl, Nat.le_of_ble_eq_true rfl, walk3 rfl rfl rfl rfl rfl rfl rfl rfl rfl rfl rfl rfl rfl rfl rfl rfl L R ga gb gd hL⟩
  · cases h)
theorem own : ownKnob Try.prog.godebug = none := by kernel_rfl
theorem laidOut : laidOutB Try.prog = true := by kernel_rfl
set_option maxRecDepth 100000 in
theorem lifted (os : Os) (started : os.Started) (H : Type) (enc : TypeId × Value → H) :
    ReturnsInHanded {} Try.checked os 3 .any (Rows.routeAnswersSpec.pre6 enc Try.prog Try.f3 Rows.routeAnswersRow.domain false) (Rows.routeAnswersSpec.post enc Try.prog Try.f3 false true false false) := by
  refine returnsInHanded_of_change (C := Try.checked) own started (by kernel_rfl) Try.func3
    (ChangeSpec.witness6 (enc := enc) (C := Try.checked) false ⟨#[], #[(.slice none 0 0), (.agg #[.int .i64 0, .slice none 0 0, .slice none 0 0]), (.int .i64 0), (.int .i64 0), (.int .u8 0)], []⟩ 8 (by kernel_rfl) (by kernel_rfl) (by kernel_rfl) (by kernel_rfl)) ?_
  intro W base args ds gs before hval0 hW hcnd _
  have hval : ∀ (j : Nat) t v, Try.f3.params[j]? = some t → args[j]? = some v → Value.okWide Try.prog W .any base t v := hval0
  have hW' := hW
  obtain ⟨p, q, hA0, hV, rfl, hfz, hnd⟩ := hW
  have hA : DataW.TrodAll enc Try.prog W 0 (fun _ => true) true Try.f3.params.toList args.toList ds p := hA0
  rw [Try.params3] at hA hval
  obtain ⟨v0, vs0, d0, ds0, p0, q0, hargs, rfl, rfl, h0, r0⟩ := trodAll_cons hA
  obtain ⟨v1, vs1, d1, ds1, p1, q1, rfl, rfl, rfl, h1, r1⟩ := trodAll_cons r0
  obtain ⟨v2, vs2, d2, ds2, p2, q2, rfl, rfl, rfl, h2, r2⟩ := trodAll_cons r1
  obtain ⟨v3, vs3, d3, ds3, p3, q3, rfl, rfl, rfl, h3, r3⟩ := trodAll_cons r2
  obtain ⟨v4, vs4, d4, ds4, p4, q4, rfl, rfl, rfl, h4, r4⟩ := trodAll_cons r3
  obtain ⟨rfl, rfl, rfl⟩ := trodAll_nil r4
  obtain rfl : args = #[v0, v1, v2, v3, v4] := by cases args; simp_all
  obtain ⟨rfl, rfl⟩ := trodVars_none hV
  have lt0 : ∀ x ∈ p0, x.block < W.heap.size := by obtain ⟨m, hm⟩ := h0; exact DataW.trod_lt m _ _ _ hm
  have lt1 : ∀ x ∈ p1, x.block < W.heap.size := by obtain ⟨m, hm⟩ := h1; exact DataW.trod_lt m _ _ _ hm
  have lt2 : ∀ x ∈ p2, x.block < W.heap.size := by obtain ⟨m, hm⟩ := h2; exact DataW.trod_lt m _ _ _ hm
  have lt3 : ∀ x ∈ p3, x.block < W.heap.size := by obtain ⟨m, hm⟩ := h3; exact DataW.trod_lt m _ _ _ hm
  have lt4 : ∀ x ∈ p4, x.block < W.heap.size := by obtain ⟨m, hm⟩ := h4; exact DataW.trod_lt m _ _ _ hm
  have hZ : ∀ b, b < W.heap.size → (fun b => b < W.heap.size) b := fun _ h => h
  obtain ⟨a0, l0, w0, e0⟩ := arg_sl hZ Try.underlying22 8 (D := [.int .u8]) (by kernel_rfl) (hval 0 22 v0 rfl rfl) h0
  obtain ⟨a1, w1, e1⟩ := arg_agg hZ Try.underlying26 8 (D := [.int .i64, .sl [.int .u8, .int .i64, .int .i64], .sl [.int .u8, .int .u8, .int .i64]]) (by kernel_rfl) (hval 1 26 v1 rfl rfl) h1
  obtain ⟨a2, w2, e2⟩ := arg_int hZ Try.underlying3 (hval 2 3 v2 rfl rfl) h2
  obtain ⟨a3, w3, e3⟩ := arg_int hZ Try.underlying3 (hval 3 3 v3 rfl rfl) h3
  obtain ⟨a4, w4, e4⟩ := arg_int hZ Try.underlying5 (hval 4 5 v4 rfl rfl) h4
  clear hA0 hval0
  obtain ⟨L, rfl, hL⟩ := ex_u8s w0
  obtain ⟨N, _, rfl, _, x1⟩ := un_int w1
  obtain ⟨s1, _, rfl, _, hs1, x2⟩ := un_sl x1
  obtain ⟨s2, _, rfl, _, hs2, x3⟩ := un_sl x2
  obtain rfl := okAs_unnil x3
  obtain ⟨B, rfl⟩ := ex_brs hs1
  obtain ⟨E, rfl⟩ := ex_eps hs2
  have hS := sF L ⟨N, B, E⟩ a2 a3 a4 hL
  have hC : CF L ⟨N, B, E⟩ a2 a3 a4 [] [.lst [.int .u8 0] (u8s L), .agg [.int .i64 N, .lst [.int .u8 0, .int .i64 0, .int .i64 0] (brs B), .lst [.int .u8 0, .int .u8 0, .int .i64 0] (eps E)], .int .i64 a2, .int .i64 a3, .int .u8 a4] = some (True, .bool true, []) := by simp [CF]
  have hq := True.intro
  refine (law_calls hS (Reps.cons' e0 (Reps.cons' e1 (Reps.cons' e2 (Reps.cons' e3 (Reps.cons' e4 Reps.nil'))))) hC hq).mono fun e W' ⟨he, bel⟩ => ?_
  subst he
  exact ⟨_, rfl, _, _, _, [], _, [], hW', trodAll_mk1 (shut_bool Try.underlying4 _), (trodAll_cons_mk (Below.trod laidOut (by kernel_rfl) (of_decide_eq_true (by kernel_rfl)) h0 bel lt0) (trodAll_cons_mk (Below.trod laidOut (by kernel_rfl) (of_decide_eq_true (by kernel_rfl)) h1 bel lt1) (trodAll_cons_mk (Below.trod laidOut (by kernel_rfl) (of_decide_eq_true (by kernel_rfl)) h2 bel lt2) (trodAll_cons_mk (Below.trod laidOut (by kernel_rfl) (of_decide_eq_true (by kernel_rfl)) h3 bel lt3) (trodAll_cons_mk (Below.trod laidOut (by kernel_rfl) (of_decide_eq_true (by kernel_rfl)) h4 bel lt4) trodAll_mk0))))), rfl, bel.frame _, fun h => by cases h⟩

theorem over : Rows.routeAnswersRow.holds Try.pinned (OpenSpec.ofChange Rows.routeAnswersSpec) :=
  OpenClaim.holds_of_wide 3 Try.f3 rfl rfl rfl rfl rfl rfl rfl ⟨rfl, rfl, rfl, rfl, rfl⟩ rfl rfl rfl rfl rfl (by kernel_rfl) Try.func3 (by kernel_rfl)
    (of_decide_eq_true (by kernel_rfl)) (by unfold Func.isWrapper; first | (rw [if_pos (by decide +kernel)]; kernel_rfl) | (rw [if_neg (by decide +kernel)]; exact ⟨rfl, rfl⟩))
    (fun os started H enc _ => lifted os started H enc)
theorem proved : Rows.RouteAnswersSaid := over
#print axioms proved
end Answers
end Go.Proofs.Yteakklbbdfgbdaa
