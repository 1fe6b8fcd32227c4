/- A part of the proof: symbolic evaluation of the program's functions, proved sound against the model; no condition. -/
import Derived.Test.YtkpjkembnkadaaaEvWD
import Derived.Test.YtkpjkembnkadaaaEvM
namespace Go.Proofs.Ytkpjkembnkadaaa
open Go Go.RowKit Go.Ev
set_option linter.unusedSimpArgs false
set_option linter.unusedVariables false
set_option maxRecDepth 20000

/-! ### The functions' contracts hold -/
theorem agg7 {xs : List AV} {g : Tm → Option (Prop × AV × List AV)} {y : Prop × AV × List AV}
    (h : (match xs with | [.agg [.bool r, .int .i64 i, .int .i64 l, .int .i64 e, .int .i64 a, .bool w, .int .i64 x]] => g ⟨r, i, l, e, a, w, x⟩ | _ => none) = some y) : ∃ t : Tm, xs = [t.av] ∧ g t = some y := by
  split at h
  · exact ⟨_, rfl, h⟩
  · cases h
theorem s11 : Sound Try.prog 11 C11 := sound_pure (by kernel_rfl) (Φ := Phis []) phis_nil noI Try.func11 rfl rc11_ok rv11_ok (by
  intro xs q r cs' h _
  obtain ⟨t, rfl, h⟩ := agg7 (g := fun t => some (True, .bool (valid t), [])) h
  cases h
  exact ⟨rfl, Nat.le_of_ble_eq_true rfl, walk11 t⟩)
def P1 : List (Nat × Ctr) := [(11, C11)]
theorem h1 : ∀ f C, Phis P1 f = some C → Sound Try.prog f C := phis_cons s11 phis_nil
theorem s8 : Sound Try.prog 8 C8 := sound_pure (by kernel_rfl) h1 noI Try.func8 rfl rc8_ok rv8_ok (by
  intro xs q r cs' h _
  split at h
  · cases h
    exact ⟨rfl, Nat.le_of_ble_eq_true rfl, walk8 rfl _ _ _⟩
  · cases h)
theorem s9 : Sound Try.prog 9 C9 := sound_pure (by kernel_rfl) h1 noI Try.func9 rfl rc9_ok rv9_ok (by
  intro xs q r cs' h _
  obtain ⟨t, rfl, h⟩ := agg7 (g := fun t => some (True, (start t).av, [])) h
  cases h
  exact ⟨rfl, Nat.le_of_ble_eq_true rfl, walk9 rfl t⟩)
theorem s16 : Sound Try.prog 16 C16 := sound_pure (by kernel_rfl) h1 noI Try.func16 rfl rc16_ok rv16_ok (by
  intro xs q r cs' h _
  obtain ⟨t, rfl, h⟩ := agg7 (g := fun t => some (True, (stop t).av, [])) h
  cases h
  exact ⟨rfl, Nat.le_of_ble_eq_true rfl, walk16 rfl t⟩)
theorem s10 : Sound Try.prog 10 C10 := sound_pure (by kernel_rfl) h1 noI Try.func10 rfl rc10_ok rv10_ok (by
  intro xs q r cs' h _
  obtain ⟨t, rfl, h⟩ := agg7 (g := fun t => some (True, .tup [(stepT t).av, .bool (stepW t), .bool (stepX t)], [])) h
  cases h
  exact ⟨rfl, Nat.le_of_ble_eq_true rfl, walk10 rfl t⟩)
def P2 : List (Nat × Ctr) := [(8, C8), (9, C9), (10, C10), (11, C11), (16, C16)]
theorem h2 : ∀ f C, Phis P2 f = some C → Sound Try.prog f C := phis_cons s8 (phis_cons s9 (phis_cons s10 (phis_cons s11 (phis_cons s16 phis_nil))))
theorem s7 : Sound Try.prog 7 C7 := sound_pure (by kernel_rfl) h2 I7 Try.func7 rfl rc7_ok rv7_ok (by
  intro xs q r cs' h _
  split at h
  · cases h
    exact ⟨rfl, Nat.le_of_ble_eq_true rfl, walk7 rfl rfl rfl⟩
  · cases h)
def P3 : List (Nat × Ctr) := (7, C7) :: P2
theorem h3 : ∀ f C, Phis P3 f = some C → Sound Try.prog f C := phis_cons s7 h2
open Classical in
noncomputable def C3 (a b : Int) (ks : List Int) : List AV → List AV → Option (Prop × AV × List AV) := fun _ xs => if xs = [.int .u16 a, .int .u16 b, .lst [.int .u8 0] (u8s ks)] then some (True, .bool true, []) else none
theorem s3 (a b : Int) (ks : List Int) (ha : 0 ≤ a) (ha' : a ≤ 65535) (hb : 0 ≤ b) (hb' : b ≤ 65535) (hk : ∀ k ∈ ks, 0 ≤ k ∧ k ≤ 255) (hl : ks.length ≤ 9223372036854775807) : Sound Try.prog 3 ⟨false, C3 a b ks⟩ :=
  sound_pure (by kernel_rfl) h3 (I3 (2 + a % 300) (b % (2 + a % 300)) ks) Try.func3 rfl rc3_ok rv3_ok (by
  intro xs q r cs' h _
  unfold C3 at h
  split at h
  · rename_i e; subst e
    cases h
    exact ⟨rfl, Nat.le_of_ble_eq_true rfl, walk3 rfl rfl rfl rfl a b ks ha ha' hb hb' hk hl⟩
  · cases h)
end Go.Proofs.Ytkpjkembnkadaaa
