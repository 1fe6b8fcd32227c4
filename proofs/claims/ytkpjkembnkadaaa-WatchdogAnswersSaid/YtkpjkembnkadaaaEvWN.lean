/- WatchdogAnswers of chapter 40 returns true at every input, and leaves its arguments as they were; no condition. -/
import Derived.Test.YtkpjkembnkadaaaRows
import Derived.Test.YtkpjkembnkadaaaEvWE
import Derived.Test.YtkpjkembnkadaaaEvWK
import Derived.Test.YtkpjkembnkadaaaEvWL
namespace Go.Proofs.Ytkpjkembnkadaaa
open Go Go.RowKit Go.Ev
set_option linter.unusedSimpArgs false
set_option linter.unusedVariables false
set_option maxRecDepth 20000
namespace Answers
open Go.ChangeShapes Go.WideShapes Go.ChangeAt Go.RowKit

theorem s14 : Sound Try.prog 14 C11 := sound_pure (by kernel_rfl) (Φ := Phis []) phis_nil noI Try.func14 rfl rc14_ok rv14_ok (by
  intro xs q r cs' h _
  obtain ⟨t, rfl, h⟩ := agg7 (g := fun t => some (True, .bool (valid t), [])) h
  cases h
  exact ⟨rfl, Nat.le_of_ble_eq_true rfl, walk14 t⟩)
def P4 : List (Nat × Ctr) := [(14, C11)]
theorem h4 : ∀ f C, Phis P4 f = some C → Sound Try.prog f C := phis_cons s14 phis_nil
theorem s12 : Sound Try.prog 12 C8 := sound_pure (by kernel_rfl) h4 noI Try.func12 rfl rc12_ok rv12_ok (by
  intro xs q r cs' h _
  split at h
  · cases h
    exact ⟨rfl, Nat.le_of_ble_eq_true rfl, walk12 rfl _ _ _⟩
  · cases h)
theorem s15 : Sound Try.prog 15 C9 := sound_pure (by kernel_rfl) h4 noI Try.func15 rfl rc15_ok rv15_ok (by
  intro xs q r cs' h _
  obtain ⟨t, rfl, h⟩ := agg7 (g := fun t => some (True, (start t).av, [])) h
  cases h
  exact ⟨rfl, Nat.le_of_ble_eq_true rfl, walk15 rfl t⟩)
theorem s17 : Sound Try.prog 17 C16 := sound_pure (by kernel_rfl) h4 noI Try.func17 rfl rc17_ok rv17_ok (by
  intro xs q r cs' h _
  obtain ⟨t, rfl, h⟩ := agg7 (g := fun t => some (True, (stop t).av, [])) h
  cases h
  exact ⟨rfl, Nat.le_of_ble_eq_true rfl, walk17 rfl t⟩)
theorem s13 : Sound Try.prog 13 C10 := sound_pure (by kernel_rfl) h4 noI Try.func13 rfl rc13_ok rv13_ok (by
  intro xs q r cs' h _
  obtain ⟨t, rfl, h⟩ := agg7 (g := fun t => some (True, .tup [(stepT t).av, .bool (stepW t), .bool (stepX t)], [])) h
  cases h
  exact ⟨rfl, Nat.le_of_ble_eq_true rfl, walk13 rfl t⟩)
def P5 : List (Nat × Ctr) := (12, C8) :: (13, C10) :: (14, C11) :: (15, C9) :: (17, C16) :: P3
theorem h5 : ∀ f C, Phis P5 f = some C → Sound Try.prog f C := phis_cons s12 (phis_cons s13 (phis_cons s14 (phis_cons s15 (phis_cons s17 h3))))
open Classical in
noncomputable def C5 (t : Tm) (i e ac a b c : Int) (run warn : Bool) : List AV → List AV → Option (Prop × AV × List AV) := fun _ xs => if xs = [t.av, .int .i64 i, .int .i64 e, .int .i64 ac, .int .u8 a, .int .u8 b, .int .u8 c, .bool run, .bool warn] then some (True, .bool true, []) else none
theorem s5 (t : Tm) (i e ac a b c : Int) (run warn : Bool) (ha : 0 ≤ a) (ha' : a ≤ 255) (hb : 0 ≤ b) (hb' : b ≤ 255) (hc : 0 ≤ c) (hc' : c ≤ 255) : Sound Try.prog 5 ⟨false, C5 t i e ac a b c run warn⟩ :=
  sound_pure (by kernel_rfl) h5 (I5 [t, made a b c run warn, start (made a b c run warn)]) Try.func5 rfl rc5_ok rv5_ok (by
  intro xs q r cs' h _
  unfold C5 at h
  split at h
  · rename_i e'; subst e'
    cases h
    exact ⟨rfl, Nat.le_of_ble_eq_true rfl, walk5 rfl rfl rfl rfl rfl rfl rfl rfl rfl rfl rfl t i e ac a b c run warn ha ha' hb hb' hc hc'⟩
  · cases h)
theorem timer_of {ys : List AV} (h : okAs [.bool, .int .i64, .int .i64, .int .i64, .int .i64, .bool, .int .i64] ys) : ∃ t : Tm, AV.agg ys = t.av := by
  obtain ⟨r, _, rfl, k1⟩ := un_bool h
  obtain ⟨i, _, rfl, _, k2⟩ := un_int k1
  obtain ⟨l, _, rfl, _, k3⟩ := un_int k2
  obtain ⟨e, _, rfl, _, k4⟩ := un_int k3
  obtain ⟨a, _, rfl, _, k5⟩ := un_int k4
  obtain ⟨w, _, rfl, k6⟩ := un_bool k5
  obtain ⟨x, _, rfl, _, k7⟩ := un_int k6
  obtain rfl := okAs_unnil k7
  exact ⟨⟨r, i, l, e, a, w, x⟩, rfl⟩
theorem own : ownKnob Try.prog.godebug = none := by kernel_rfl
theorem laidOut : laidOutB Try.prog = true := by kernel_rfl
set_option maxRecDepth 100000 in
theorem lifted (os : Os) (started : os.Started) (H : Type) (enc : TypeId × Value → H) :
    ReturnsInHanded {} Try.checked os 5 .any (Rows.watchdogAnswersSpec.pre6 enc Try.prog Try.f5 Rows.watchdogAnswersRow.domain false) (Rows.watchdogAnswersSpec.post enc Try.prog Try.f5 false true false false) := by
  refine returnsInHanded_of_change (C := Try.checked) own started (by kernel_rfl) Try.func5
    (ChangeSpec.witness6 (enc := enc) (C := Try.checked) false ⟨#[], #[(.agg #[.bool false, .int .i64 0, .int .i64 0, .int .i64 0, .int .i64 0, .bool false, .int .i64 0]), (.int .i64 0), (.int .i64 0), (.int .i64 0), (.int .u8 0), (.int .u8 0), (.int .u8 0), (.bool false), (.bool false)], []⟩ 8 (by kernel_rfl) (by kernel_rfl) (by kernel_rfl) (by kernel_rfl)) ?_
  intro W base args ds gs before hval0 hW hcnd _
  have hval : ∀ (j : Nat) t v, Try.f5.params[j]? = some t → args[j]? = some v → Value.okWide Try.prog W .any base t v := hval0
  have hW' := hW
  obtain ⟨p, q, hA0, hV, rfl, hfz, hnd⟩ := hW
  have hA : DataW.TrodAll enc Try.prog W 0 (fun _ => true) true Try.f5.params.toList args.toList ds p := hA0
  rw [Try.params5] at hA hval
  obtain ⟨v0, vs0, d0, ds0, p0, q0, hargs, rfl, rfl, h0, r0⟩ := trodAll_cons hA
  obtain ⟨v1, vs1, d1, ds1, p1, q1, rfl, rfl, rfl, h1, r1⟩ := trodAll_cons r0
  obtain ⟨v2, vs2, d2, ds2, p2, q2, rfl, rfl, rfl, h2, r2⟩ := trodAll_cons r1
  obtain ⟨v3, vs3, d3, ds3, p3, q3, rfl, rfl, rfl, h3, r3⟩ := trodAll_cons r2
  obtain ⟨v4, vs4, d4, ds4, p4, q4, rfl, rfl, rfl, h4, r4⟩ := trodAll_cons r3
  obtain ⟨v5, vs5, d5, ds5, p5, q5, rfl, rfl, rfl, h5, r5⟩ := trodAll_cons r4
  obtain ⟨v6, vs6, d6, ds6, p6, q6, rfl, rfl, rfl, h6, r6⟩ := trodAll_cons r5
  obtain ⟨v7, vs7, d7, ds7, p7, q7, rfl, rfl, rfl, h7, r7⟩ := trodAll_cons r6
  obtain ⟨v8, vs8, d8, ds8, p8, q8, rfl, rfl, rfl, h8, r8⟩ := trodAll_cons r7
  obtain ⟨rfl, rfl, rfl⟩ := trodAll_nil r8
  obtain rfl : args = #[v0, v1, v2, v3, v4, v5, v6, v7, v8] := by cases args; simp_all
  obtain ⟨rfl, rfl⟩ := trodVars_none hV
  have lt0 : ∀ x ∈ p0, x.block < W.heap.size := by obtain ⟨m, hm⟩ := h0; exact DataW.trod_lt m _ _ _ hm
  have lt1 : ∀ x ∈ p1, x.block < W.heap.size := by obtain ⟨m, hm⟩ := h1; exact DataW.trod_lt m _ _ _ hm
  have lt2 : ∀ x ∈ p2, x.block < W.heap.size := by obtain ⟨m, hm⟩ := h2; exact DataW.trod_lt m _ _ _ hm
  have lt3 : ∀ x ∈ p3, x.block < W.heap.size := by obtain ⟨m, hm⟩ := h3; exact DataW.trod_lt m _ _ _ hm
  have lt4 : ∀ x ∈ p4, x.block < W.heap.size := by obtain ⟨m, hm⟩ := h4; exact DataW.trod_lt m _ _ _ hm
  have lt5 : ∀ x ∈ p5, x.block < W.heap.size := by obtain ⟨m, hm⟩ := h5; exact DataW.trod_lt m _ _ _ hm
  have lt6 : ∀ x ∈ p6, x.block < W.heap.size := by obtain ⟨m, hm⟩ := h6; exact DataW.trod_lt m _ _ _ hm
  have lt7 : ∀ x ∈ p7, x.block < W.heap.size := by obtain ⟨m, hm⟩ := h7; exact DataW.trod_lt m _ _ _ hm
  have lt8 : ∀ x ∈ p8, x.block < W.heap.size := by obtain ⟨m, hm⟩ := h8; exact DataW.trod_lt m _ _ _ hm
  have hZ : ∀ b, b < W.heap.size → (fun b => b < W.heap.size) b := fun _ h => h
  obtain ⟨a0, w0, e0⟩ := arg_agg hZ Try.underlying26 8 (D := [.bool, .int .i64, .int .i64, .int .i64, .int .i64, .bool, .int .i64]) (by kernel_rfl) (hval 0 26 v0 rfl rfl) h0
  obtain ⟨a1, w1, e1⟩ := arg_int hZ Try.underlying3 (hval 1 3 v1 rfl rfl) h1
  obtain ⟨a2, w2, e2⟩ := arg_int hZ Try.underlying3 (hval 2 3 v2 rfl rfl) h2
  obtain ⟨a3, w3, e3⟩ := arg_int hZ Try.underlying3 (hval 3 3 v3 rfl rfl) h3
  obtain ⟨a4, w4, e4⟩ := arg_int hZ Try.underlying5 (hval 4 5 v4 rfl rfl) h4
  obtain ⟨a5, w5, e5⟩ := arg_int hZ Try.underlying5 (hval 5 5 v5 rfl rfl) h5
  obtain ⟨a6, w6, e6⟩ := arg_int hZ Try.underlying5 (hval 6 5 v6 rfl rfl) h6
  obtain ⟨a7, e7⟩ := arg_bool hZ Try.underlying4 (hval 7 4 v7 rfl rfl) h7
  obtain ⟨a8, e8⟩ := arg_bool hZ Try.underlying4 (hval 8 4 v8 rfl rfl) h8
  clear hA0 hval0
  obtain ⟨t, ht⟩ := timer_of w0
  rw [ht] at e0
  have b4 := bounds_u8 w4
  have b5 := bounds_u8 w5
  have b6 := bounds_u8 w6
  have hS := s5 t a1 a2 a3 a4 a5 a6 a7 a8 b4.1 b4.2 b5.1 b5.2 b6.1 b6.2
  have hC : C5 t a1 a2 a3 a4 a5 a6 a7 a8 [] [t.av, .int .i64 a1, .int .i64 a2, .int .i64 a3, .int .u8 a4, .int .u8 a5, .int .u8 a6, .bool a7, .bool a8] = some (True, .bool true, []) := by simp [C5]
  have hq := True.intro
  refine (law_calls hS (Reps.cons' e0 (Reps.cons' e1 (Reps.cons' e2 (Reps.cons' e3 (Reps.cons' e4 (Reps.cons' e5 (Reps.cons' e6 (Reps.cons' e7 (Reps.cons' e8 Reps.nil'))))))))) hC hq).mono fun e W' ⟨he, bel⟩ => ?_
  subst he
  exact ⟨_, rfl, _, _, _, [], _, [], hW', trodAll_mk1 (shut_bool Try.underlying4 _), (trodAll_cons_mk (Below.trod laidOut (by kernel_rfl) (of_decide_eq_true (by kernel_rfl)) h0 bel lt0) (trodAll_cons_mk (Below.trod laidOut (by kernel_rfl) (of_decide_eq_true (by kernel_rfl)) h1 bel lt1) (trodAll_cons_mk (Below.trod laidOut (by kernel_rfl) (of_decide_eq_true (by kernel_rfl)) h2 bel lt2) (trodAll_cons_mk (Below.trod laidOut (by kernel_rfl) (of_decide_eq_true (by kernel_rfl)) h3 bel lt3) (trodAll_cons_mk (Below.trod laidOut (by kernel_rfl) (of_decide_eq_true (by kernel_rfl)) h4 bel lt4) (trodAll_cons_mk (Below.trod laidOut (by kernel_rfl) (of_decide_eq_true (by kernel_rfl)) h5 bel lt5) (trodAll_cons_mk (Below.trod laidOut (by kernel_rfl) (of_decide_eq_true (by kernel_rfl)) h6 bel lt6) (trodAll_cons_mk (Below.trod laidOut (by kernel_rfl) (of_decide_eq_true (by kernel_rfl)) h7 bel lt7) (trodAll_cons_mk (Below.trod laidOut (by kernel_rfl) (of_decide_eq_true (by kernel_rfl)) h8 bel lt8) trodAll_mk0))))))))), rfl, bel.frame _, fun h => by cases h⟩

theorem over : Rows.watchdogAnswersRow.holds Try.pinned (OpenSpec.ofChange Rows.watchdogAnswersSpec) :=
  OpenClaim.holds_of_wide 5 Try.f5 rfl rfl rfl rfl rfl rfl rfl ⟨rfl, rfl, rfl, rfl, rfl⟩ rfl rfl rfl rfl rfl (by kernel_rfl) Try.func5 (by kernel_rfl)
    (of_decide_eq_true (by kernel_rfl)) (by unfold Func.isWrapper; first | (rw [if_pos (by decide +kernel)]; kernel_rfl) | (rw [if_neg (by decide +kernel)]; exact ⟨rfl, rfl⟩))
    (fun os started H enc _ => lifted os started H enc)
theorem proved : Rows.WatchdogAnswersSaid := over
#print axioms proved
end Answers
end Go.Proofs.Ytkpjkembnkadaaa
