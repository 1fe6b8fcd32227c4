/- ClockParts of chapter 8 returns true at every input, and leaves its arguments as they were; no condition. -/
import Derived.Test.YtmcaedjlglpdeaaRows
import Derived.Test.YtmcaedjlglpdeaaEvKF
namespace Go.Proofs.Ytmcaedjlglpdeaa
open Go Go.RowKit Go.Ev
set_option linter.unusedSimpArgs false
set_option linter.unusedVariables false
set_option maxRecDepth 20000
namespace Parts
open Go.ChangeShapes Go.WideShapes Go.ChangeAt Go.RowKit
theorem ck_of {ys : List AV} (h : okAs [.int .i64, .int .i64, .bool] ys) : ∃ c : Ck, AV.agg ys = c.av := by
  obtain ⟨t, _, rfl, _, k1⟩ := un_int h
  obtain ⟨b, _, rfl, _, k2⟩ := un_int k1
  obtain ⟨s, _, rfl, k3⟩ := un_bool k2
  obtain rfl := okAs_unnil k3
  exact ⟨⟨t, b, s⟩, rfl⟩
open Classical in
noncomputable def CF (t b : Int) (s : Bool) (x y to : Int) : List AV → List AV → Option (Prop × AV × List AV) := fun _ ys => if ys = [.int .i64 t, .int .i64 b, .bool s, .int .u16 x, .int .u16 y, .int .u32 to] then some (True, .bool true, []) else none
theorem sF (t b : Int) (s : Bool) (x y to : Int) (h0 : 0 ≤ to) (h1 : to ≤ 4294967295) (hx : 0 ≤ x) (hx1 : x ≤ 65535) (hy : 0 ≤ y) (hy1 : y ≤ 65535) : Sound Try.prog 5 ⟨false, CF t b s x y to⟩ :=
  sound_pure (by kernel_rfl) h4 (noI) Try.func5 rfl rc5_ok rv5_ok (by
  intro xs q r cs' h _
  unfold CF at h
  split at h
  · rename_i e'; subst e'
    cases h
    exact ⟨rfl, Nat.le_of_ble_eq_true rfl, walk5 rfl rfl rfl rfl rfl rfl t b s x y to h0 h1 hx hx1 hy hy1⟩
  · cases h)
theorem own : ownKnob Try.prog.godebug = none := by kernel_rfl
theorem laidOut : laidOutB Try.prog = true := by kernel_rfl
set_option maxRecDepth 100000 in
theorem lifted (os : Os) (started : os.Started) (H : Type) (enc : TypeId × Value → H) :
    ReturnsInHanded {} Try.checked os 5 .any (Rows.clockPartsSpec.pre6 enc Try.prog Try.f5 Rows.clockPartsRow.domain false) (Rows.clockPartsSpec.post enc Try.prog Try.f5 false true false false) := by
  refine returnsInHanded_of_change (C := Try.checked) own started (by kernel_rfl) Try.func5
    (ChangeSpec.witness6 (enc := enc) (C := Try.checked) false ⟨#[], #[(.int .i64 0), (.int .i64 0), (.bool false), (.int .u16 0), (.int .u16 0), (.int .u32 0)], []⟩ 8 (by kernel_rfl) (by kernel_rfl) (by kernel_rfl) (by kernel_rfl)) ?_
  intro W base args ds gs before hval0 hW hcnd _
  have hval : ∀ (j : Nat) t v, Try.f5.params[j]? = some t → args[j]? = some v → Value.okWide Try.prog W .any base t v := hval0
  have hW' := hW
  obtain ⟨p, q, hA0, hV, rfl, hfz, hnd⟩ := hW
  have hA : DataW.TrodAll enc Try.prog W 0 (fun _ => true) true Try.f5.params.toList args.toList ds p := hA0
  rw [Try.params5] at hA hval
  obtain ⟨v0, vs0, d0, ds0, p0, q0, hargs, rfl, rfl, h0, r0⟩ := trodAll_cons hA
  obtain ⟨v1, vs1, d1, ds1, p1, q1, rfl, rfl, rfl, h1, r1⟩ := trodAll_cons r0
  obtain ⟨v2, vs2, d2, ds2, p2, q2, rfl, rfl, rfl, h2, r2⟩ := trodAll_cons r1
  obtain ⟨v3, vs3, d3, ds3, p3, q3, rfl, rfl, rfl, h3, r3⟩ := trodAll_cons r2
  obtain ⟨v4, vs4, d4, ds4, p4, q4, rfl, rfl, rfl, h4, r4⟩ := trodAll_cons r3
  obtain ⟨v5, vs5, d5, ds5, p5, q5, rfl, rfl, rfl, h5, r5⟩ := trodAll_cons r4
  obtain ⟨rfl, rfl, rfl⟩ := trodAll_nil r5
  obtain rfl : args = #[v0, v1, v2, v3, v4, v5] := by cases args; simp_all
  obtain ⟨rfl, rfl⟩ := trodVars_none hV
  have lt0 : ∀ x ∈ p0, x.block < W.heap.size := by obtain ⟨m, hm⟩ := h0; exact DataW.trod_lt m _ _ _ hm
  have lt1 : ∀ x ∈ p1, x.block < W.heap.size := by obtain ⟨m, hm⟩ := h1; exact DataW.trod_lt m _ _ _ hm
  have lt2 : ∀ x ∈ p2, x.block < W.heap.size := by obtain ⟨m, hm⟩ := h2; exact DataW.trod_lt m _ _ _ hm
  have lt3 : ∀ x ∈ p3, x.block < W.heap.size := by obtain ⟨m, hm⟩ := h3; exact DataW.trod_lt m _ _ _ hm
  have lt4 : ∀ x ∈ p4, x.block < W.heap.size := by obtain ⟨m, hm⟩ := h4; exact DataW.trod_lt m _ _ _ hm
  have lt5 : ∀ x ∈ p5, x.block < W.heap.size := by obtain ⟨m, hm⟩ := h5; exact DataW.trod_lt m _ _ _ hm
  have hZ : ∀ b, b < W.heap.size → (fun b => b < W.heap.size) b := fun _ h => h
  obtain ⟨a0, w0, e0⟩ := arg_int hZ Try.underlying2 (hval 0 2 v0 rfl rfl) h0
  obtain ⟨a1, w1, e1⟩ := arg_int hZ Try.underlying2 (hval 1 2 v1 rfl rfl) h1
  obtain ⟨a2, e2⟩ := arg_bool hZ Try.underlying4 (hval 2 4 v2 rfl rfl) h2
  obtain ⟨a3, w3, e3⟩ := arg_int hZ Try.underlying24 (hval 3 24 v3 rfl rfl) h3
  obtain ⟨a4, w4, e4⟩ := arg_int hZ Try.underlying24 (hval 4 24 v4 rfl rfl) h4
  obtain ⟨a5, w5, e5⟩ := arg_int hZ Try.underlying31 (hval 5 31 v5 rfl rfl) h5
  clear hA0 hval0
  have b3 := bounds_u16 w3
  have b4 := bounds_u16 w4
  have b5 := bounds_u32 w5
  have hS := sF a0 a1 a2 a3 a4 a5 b5.1 b5.2 b3.1 b3.2 b4.1 b4.2
  have hC : CF a0 a1 a2 a3 a4 a5 [] [.int .i64 a0, .int .i64 a1, .bool a2, .int .u16 a3, .int .u16 a4, .int .u32 a5] = some (True, .bool true, []) := by simp [CF]
  have hq := True.intro
  refine (law_calls hS (Reps.cons' e0 (Reps.cons' e1 (Reps.cons' e2 (Reps.cons' e3 (Reps.cons' e4 (Reps.cons' e5 Reps.nil')))))) hC hq).mono fun e W' ⟨he, bel⟩ => ?_
  subst he
  exact ⟨_, rfl, _, _, _, [], _, [], hW', trodAll_mk1 (shut_bool Try.underlying4 _), (trodAll_cons_mk (Below.trod laidOut (by kernel_rfl) (of_decide_eq_true (by kernel_rfl)) h0 bel lt0) (trodAll_cons_mk (Below.trod laidOut (by kernel_rfl) (of_decide_eq_true (by kernel_rfl)) h1 bel lt1) (trodAll_cons_mk (Below.trod laidOut (by kernel_rfl) (of_decide_eq_true (by kernel_rfl)) h2 bel lt2) (trodAll_cons_mk (Below.trod laidOut (by kernel_rfl) (of_decide_eq_true (by kernel_rfl)) h3 bel lt3) (trodAll_cons_mk (Below.trod laidOut (by kernel_rfl) (of_decide_eq_true (by kernel_rfl)) h4 bel lt4) (trodAll_cons_mk (Below.trod laidOut (by kernel_rfl) (of_decide_eq_true (by kernel_rfl)) h5 bel lt5) trodAll_mk0)))))), rfl, bel.frame _, fun h => by cases h⟩

theorem over : Rows.clockPartsRow.holds Try.pinned (OpenSpec.ofChange Rows.clockPartsSpec) :=
  OpenClaim.holds_of_wide 5 Try.f5 rfl rfl rfl rfl rfl rfl rfl ⟨rfl, rfl, rfl, rfl, rfl⟩ rfl rfl rfl rfl rfl (by kernel_rfl) Try.func5 (by kernel_rfl)
    (of_decide_eq_true (by kernel_rfl)) (by unfold Func.isWrapper; first | (rw [if_pos (by decide +kernel)]; kernel_rfl) | (rw [if_neg (by decide +kernel)]; exact ⟨rfl, rfl⟩))
    (fun os started H enc _ => lifted os started H enc)
theorem proved : Rows.ClockPartsSaid := over
#print axioms proved
end Parts
end Go.Proofs.Ytmcaedjlglpdeaa
