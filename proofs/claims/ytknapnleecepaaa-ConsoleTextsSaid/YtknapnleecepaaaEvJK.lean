/- The statement ConsoleTexts holds of the given program. -/
import Derived.Test.YtknapnleecepaaaRows
import Derived.Test.YtknapnleecepaaaEvJJ
namespace Go.Proofs.Ytknapnleecepaaa
open Go Go.RowKit Go.Ev
set_option linter.unusedSimpArgs false
set_option linter.unusedVariables false
set_option maxRecDepth 20000
namespace Texts
open Go.ChangeShapes Go.WideShapes Go.ChangeAt Go.RowKit
open Classical in
noncomputable def CF (x : Ck) (b : List Int) (sq ak ct : Int) (bk : Bool) (d : List Int) : List AV → List AV → Option (Prop × AV × List AV) := fun _ ys => if ys = [.agg [.int .i64 x.sq, .int .i64 x.ak, .int .i64 x.ct, .bool x.bk, .lst [.int .u8 0] (u8s x.d)], .lst [.int .u8 0] (u8s b), .int .u8 sq, .int .u8 ak, .int .u8 ct, .bool bk, .lst [.int .u8 0] (u8s d)] then some (True, .bool true, []) else none
theorem sF (x : Ck) (b : List Int) (sq ak ct : Int) (bk : Bool) (d : List Int) (hx : Okb x.d) (hb : Okb b) (hd : Okb d) (h1 : 0 ≤ sq ∧ sq ≤ 255) (h2 : 0 ≤ ak ∧ ak ≤ 255) (h3 : 0 ≤ ct ∧ ct ≤ 255) : Sound Try.prog 3 (.mk false (CF x b sq ak ct bk d)) :=
  sound_pureI (by kernel_rfl) hN Try.func3 rfl rc3_ok rv3_ok (by
  intro xs q r cs' h _
  unfold CF at h
  split at h
  · rename_i e'; subst e'
    cases h
    exact ⟨I3 x b sq ak ct d, rfl, Nat.le_of_ble_eq_true rfl, walk3 rfl rfl rfl rfl rfl rfl x b sq ak ct bk d hx hb hd h1 h2 h3⟩
  · cases h)
theorem own : ownKnob Try.prog.godebug = none := by kernel_rfl
theorem laidOut : laidOutB Try.prog = true := by kernel_rfl
set_option maxRecDepth 100000 in
theorem lifted (os : Os) (started : os.Started) (H : Type) (enc : TypeId × Value → H) :
    ReturnsInHanded {} Try.checked os 3 .any (Rows.consoleTextsSpec.pre6 enc Try.prog Try.f3 Rows.consoleTextsRow.domain false) (Rows.consoleTextsSpec.post enc Try.prog Try.f3 false true false false) := by
  refine returnsInHanded_of_change (C := Try.checked) own started (by kernel_rfl) Try.func3
    (ChangeSpec.witness6 (enc := enc) (C := Try.checked) false ⟨#[], #[(.agg #[.int .i64 0, .int .i64 0, .int .i64 0, .bool false, .slice none 0 0]), (.slice none 0 0), (.int .u8 0), (.int .u8 0), (.int .u8 0), (.bool false), (.slice none 0 0)], []⟩ 8 (by kernel_rfl) (by kernel_rfl) (by kernel_rfl) (by kernel_rfl)) ?_
  intro W base args ds gs before hval0 hW hcnd _
  have hval : ∀ (j : Nat) t v, Try.f3.params[j]? = some t → args[j]? = some v → Value.okWide Try.prog W .any base t v := hval0
  have hW' := hW
  obtain ⟨p, q, hA0, hV, rfl, hfz, hnd⟩ := hW
  have hA : DataW.TrodAll enc Try.prog W 0 (fun _ => true) true Try.f3.params.toList args.toList ds p := hA0
  rw [Try.params3] at hA hval
  obtain ⟨v0, vs0, d0, ds0, p0, q0, hargs, rfl, rfl, h0, r0⟩ := trodAll_cons hA
  obtain ⟨v1, vs1, d1, ds1, p1, q1, rfl, rfl, rfl, h1, r1⟩ := trodAll_cons r0
  obtain ⟨v2, vs2, d2, ds2, p2, q2, rfl, rfl, rfl, h2, r2⟩ := trodAll_cons r1
  obtain ⟨v3, vs3, d3, ds3, p3, q3, rfl, rfl, rfl, h3, r3⟩ := trodAll_cons r2
  obtain ⟨v4, vs4, d4, ds4, p4, q4, rfl, rfl, rfl, h4, r4⟩ := trodAll_cons r3
  obtain ⟨v5, vs5, d5, ds5, p5, q5, rfl, rfl, rfl, h5, r5⟩ := trodAll_cons r4
  obtain ⟨v6, vs6, d6, ds6, p6, q6, rfl, rfl, rfl, h6, r6⟩ := trodAll_cons r5
  obtain ⟨rfl, rfl, rfl⟩ := trodAll_nil r6
  obtain rfl : args = #[v0, v1, v2, v3, v4, v5, v6] := by cases args; simp_all
  obtain ⟨rfl, rfl⟩ := trodVars_none hV
  have lt0 : ∀ x ∈ p0, x.block < W.heap.size := by obtain ⟨m, hm⟩ := h0; exact DataW.trod_lt m _ _ _ hm
  have lt1 : ∀ x ∈ p1, x.block < W.heap.size := by obtain ⟨m, hm⟩ := h1; exact DataW.trod_lt m _ _ _ hm
  have lt2 : ∀ x ∈ p2, x.block < W.heap.size := by obtain ⟨m, hm⟩ := h2; exact DataW.trod_lt m _ _ _ hm
  have lt3 : ∀ x ∈ p3, x.block < W.heap.size := by obtain ⟨m, hm⟩ := h3; exact DataW.trod_lt m _ _ _ hm
  have lt4 : ∀ x ∈ p4, x.block < W.heap.size := by obtain ⟨m, hm⟩ := h4; exact DataW.trod_lt m _ _ _ hm
  have lt5 : ∀ x ∈ p5, x.block < W.heap.size := by obtain ⟨m, hm⟩ := h5; exact DataW.trod_lt m _ _ _ hm
  have lt6 : ∀ x ∈ p6, x.block < W.heap.size := by obtain ⟨m, hm⟩ := h6; exact DataW.trod_lt m _ _ _ hm
  have hZ : ∀ b, b < W.heap.size → (fun b => b < W.heap.size) b := fun _ h => h
  obtain ⟨a0, w0, e0⟩ := arg_agg hZ Try.underlying24 8 (D := [.int .i64, .int .i64, .int .i64, .bool, .sl [.int .u8]]) (by kernel_rfl) (hval 0 24 v0 rfl rfl) h0
  obtain ⟨a1, l1, w1, e1⟩ := arg_sl hZ Try.underlying22 8 (D := [.int .u8]) (by kernel_rfl) (hval 1 22 v1 rfl rfl) h1
  obtain ⟨a2, w2, e2⟩ := arg_int hZ Try.underlying5 (hval 2 5 v2 rfl rfl) h2
  obtain ⟨a3, w3, e3⟩ := arg_int hZ Try.underlying5 (hval 3 5 v3 rfl rfl) h3
  obtain ⟨a4, w4, e4⟩ := arg_int hZ Try.underlying5 (hval 4 5 v4 rfl rfl) h4
  obtain ⟨a5, e5⟩ := arg_bool hZ Try.underlying4 (hval 5 4 v5 rfl rfl) h5
  obtain ⟨a6, l6, w6, e6⟩ := arg_sl hZ Try.underlying22 8 (D := [.int .u8]) (by kernel_rfl) (hval 6 22 v6 rfl rfl) h6
  clear hA0 hval0
  obtain ⟨s0, _, rfl, _, x1⟩ := un_int w0
  obtain ⟨k0, _, rfl, _, x2⟩ := un_int x1
  obtain ⟨t0, _, rfl, _, x3⟩ := un_int x2
  obtain ⟨bk0, _, rfl, x4⟩ := un_bool x3
  obtain ⟨d0, _, rfl, _, hds, x5⟩ := un_sl x4
  obtain rfl := okAs_unnil x5
  obtain ⟨D0, rfl, hD0⟩ := ex_u8s hds
  obtain ⟨B, rfl, hB⟩ := ex_u8s w1
  obtain ⟨D, rfl, hD⟩ := ex_u8s w6
  have hS := sF ⟨s0, k0, t0, bk0, D0⟩ B a2 a3 a4 a5 D hD0 hB hD (bounds_u8 w2) (bounds_u8 w3) (bounds_u8 w4)
  have hC : CF ⟨s0, k0, t0, bk0, D0⟩ B a2 a3 a4 a5 D [] [.agg [.int .i64 s0, .int .i64 k0, .int .i64 t0, .bool bk0, .lst [.int .u8 0] (u8s D0)], .lst [.int .u8 0] (u8s B), .int .u8 a2, .int .u8 a3, .int .u8 a4, .bool a5, .lst [.int .u8 0] (u8s D)] = some (True, .bool true, []) := by simp [CF]
  have hq := True.intro
  refine (law_calls hS (Reps.cons' e0 (Reps.cons' e1 (Reps.cons' e2 (Reps.cons' e3 (Reps.cons' e4 (Reps.cons' e5 (Reps.cons' e6 Reps.nil'))))))) hC hq).mono fun e W' ⟨he, bel⟩ => ?_
  subst he
  exact ⟨_, rfl, _, _, _, [], _, [], hW', trodAll_mk1 (shut_bool Try.underlying4 _), (trodAll_cons_mk (Below.trod laidOut (by kernel_rfl) (of_decide_eq_true (by kernel_rfl)) h0 bel lt0) (trodAll_cons_mk (Below.trod laidOut (by kernel_rfl) (of_decide_eq_true (by kernel_rfl)) h1 bel lt1) (trodAll_cons_mk (Below.trod laidOut (by kernel_rfl) (of_decide_eq_true (by kernel_rfl)) h2 bel lt2) (trodAll_cons_mk (Below.trod laidOut (by kernel_rfl) (of_decide_eq_true (by kernel_rfl)) h3 bel lt3) (trodAll_cons_mk (Below.trod laidOut (by kernel_rfl) (of_decide_eq_true (by kernel_rfl)) h4 bel lt4) (trodAll_cons_mk (Below.trod laidOut (by kernel_rfl) (of_decide_eq_true (by kernel_rfl)) h5 bel lt5) (trodAll_cons_mk (Below.trod laidOut (by kernel_rfl) (of_decide_eq_true (by kernel_rfl)) h6 bel lt6) trodAll_mk0))))))), rfl, bel.frame _, fun h => by cases h⟩

theorem over : Rows.consoleTextsRow.holds Try.pinned (OpenSpec.ofChange Rows.consoleTextsSpec) :=
  OpenClaim.holds_of_wide 3 Try.f3 rfl rfl rfl rfl rfl rfl rfl ⟨rfl, rfl, rfl, rfl, rfl⟩ rfl rfl rfl rfl rfl (by kernel_rfl) Try.func3 (by kernel_rfl)
    (of_decide_eq_true (by kernel_rfl)) (by unfold Func.isWrapper; first | (rw [if_pos (by decide +kernel)]; kernel_rfl) | (rw [if_neg (by decide +kernel)]; exact ⟨rfl, rfl⟩))
    (fun os started H enc _ => lifted os started H enc)
theorem proved : Rows.ConsoleTextsSaid := over
#print axioms proved
end Texts
end Go.Proofs.Ytknapnleecepaaa
