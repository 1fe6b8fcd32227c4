/- The statement ConsoleRooms holds of the given program. -/
import Derived.Test.YtknapnleecepaaaRows
import Derived.Test.YtknapnleecepaaaEvJS
import Derived.Test.YtknapnleecepaaaEvJR
namespace Go.Proofs.Ytknapnleecepaaa
open Go Go.RowKit Go.Ev
set_option linter.unusedSimpArgs false
set_option linter.unusedVariables false
set_option maxRecDepth 20000
namespace Rooms
open Go.ChangeShapes Go.WideShapes Go.ChangeAt Go.RowKit
open Classical in
noncomputable def CF (l : List Int) (n : Int) : List AV → List AV → Option (Prop × AV × List AV) := fun _ ys => if ys = [.lst [.int .u8 0] (u8s l), .int .i64 n] then some (True, .bool true, []) else none
theorem sF (l : List Int) (n : Int) (hL : Okb l) : Sound Try.prog 4 (.mk false (CF l n)) :=
  sound_pureI (by kernel_rfl) hS4 Try.func4 rfl rc4_ok rv4_ok (by
  intro xs q r cs' h _
  unfold CF at h
  split at h
  · rename_i e'; subst e'
    cases h
    exact ⟨I4 n (l.take 300), rfl, Nat.le_of_ble_eq_true rfl, walk4 rfl rfl rfl rfl rfl rfl rfl l n hL⟩
  · cases h)
theorem own : ownKnob Try.prog.godebug = none := by kernel_rfl
theorem laidOut : laidOutB Try.prog = true := by kernel_rfl
set_option maxRecDepth 100000 in
theorem lifted (os : Os) (started : os.Started) (H : Type) (enc : TypeId × Value → H) :
    ReturnsInHanded {} Try.checked os 4 .any (Rows.consoleRoomsSpec.pre6 enc Try.prog Try.f4 Rows.consoleRoomsRow.domain false) (Rows.consoleRoomsSpec.post enc Try.prog Try.f4 false true false false) := by
  refine returnsInHanded_of_change (C := Try.checked) own started (by kernel_rfl) Try.func4
    (ChangeSpec.witness6 (enc := enc) (C := Try.checked) false ⟨#[], #[(.slice none 0 0), (.int .i64 0)], []⟩ 8 (by kernel_rfl) (by kernel_rfl) (by kernel_rfl) (by kernel_rfl)) ?_
  intro W base args ds gs before hval0 hW hcnd _
  have hval : ∀ (j : Nat) t v, Try.f4.params[j]? = some t → args[j]? = some v → Value.okWide Try.prog W .any base t v := hval0
  have hW' := hW
  obtain ⟨p, q, hA0, hV, rfl, hfz, hnd⟩ := hW
  have hA : DataW.TrodAll enc Try.prog W 0 (fun _ => true) true Try.f4.params.toList args.toList ds p := hA0
  rw [Try.params4] at hA hval
  obtain ⟨v0, vs0, d0, ds0, p0, q0, hargs, rfl, rfl, h0, r0⟩ := trodAll_cons hA
  obtain ⟨v1, vs1, d1, ds1, p1, q1, rfl, rfl, rfl, h1, r1⟩ := trodAll_cons r0
  obtain ⟨rfl, rfl, rfl⟩ := trodAll_nil r1
  obtain rfl : args = #[v0, v1] := by cases args; simp_all
  obtain ⟨rfl, rfl⟩ := trodVars_none hV
  have lt0 : ∀ x ∈ p0, x.block < W.heap.size := by obtain ⟨m, hm⟩ := h0; exact DataW.trod_lt m _ _ _ hm
  have lt1 : ∀ x ∈ p1, x.block < W.heap.size := by obtain ⟨m, hm⟩ := h1; exact DataW.trod_lt m _ _ _ hm
  have hZ : ∀ b, b < W.heap.size → (fun b => b < W.heap.size) b := fun _ h => h
  obtain ⟨a0, l0, w0, e0⟩ := arg_sl hZ Try.underlying22 8 (D := [.int .u8]) (by kernel_rfl) (hval 0 22 v0 rfl rfl) h0
  obtain ⟨a1, w1, e1⟩ := arg_int hZ Try.underlying3 (hval 1 3 v1 rfl rfl) h1
  clear hA0 hval0
  obtain ⟨D, rfl, hD⟩ := ex_u8s w0
  have hS := sF D a1 hD
  have hC : CF D a1 [] [.lst [.int .u8 0] (u8s D), .int .i64 a1] = some (True, .bool true, []) := by simp [CF]
  have hq := True.intro
  refine (law_calls hS (Reps.cons' e0 (Reps.cons' e1 Reps.nil')) hC hq).mono fun e W' ⟨he, bel⟩ => ?_
  subst he
  exact ⟨_, rfl, _, _, _, [], _, [], hW', trodAll_mk1 (shut_bool Try.underlying4 _), (trodAll_cons_mk (Below.trod laidOut (by kernel_rfl) (of_decide_eq_true (by kernel_rfl)) h0 bel lt0) (trodAll_cons_mk (Below.trod laidOut (by kernel_rfl) (of_decide_eq_true (by kernel_rfl)) h1 bel lt1) trodAll_mk0)), rfl, bel.frame _, fun h => by cases h⟩

theorem over : Rows.consoleRoomsRow.holds Try.pinned (OpenSpec.ofChange Rows.consoleRoomsSpec) :=
  OpenClaim.holds_of_wide 4 Try.f4 rfl rfl rfl rfl rfl rfl rfl ⟨rfl, rfl, rfl, rfl, rfl⟩ rfl rfl rfl rfl rfl (by kernel_rfl) Try.func4 (by kernel_rfl)
    (of_decide_eq_true (by kernel_rfl)) (by unfold Func.isWrapper; first | (rw [if_pos (by decide +kernel)]; kernel_rfl) | (rw [if_neg (by decide +kernel)]; exact ⟨rfl, rfl⟩))
    (fun os started H enc _ => lifted os started H enc)
theorem proved : Rows.ConsoleRoomsSaid := over
#print axioms proved
end Rooms
end Go.Proofs.Ytknapnleecepaaa
