/- A part of the proof: symbolic evaluation of the program's functions, proved sound against the model; no condition. -/
import Derived.Test.YtmcaedjlglpdeaaEvKC
import Derived.Test.YtmcaedjlglpdeaaEvKE
import Derived.Test.YtmcaedjlglpdeaaEvM
namespace Go.Proofs.Ytmcaedjlglpdeaa
open Go Go.RowKit Go.Ev
set_option linter.unusedSimpArgs false
set_option linter.unusedVariables false
set_option maxRecDepth 20000
open Classical
theorem h0 : ∀ f C, Phis [] f = some C → Sound Try.prog f C := phis_nil
theorem s28 : Sound Try.prog 28 CS := sound_pure (by kernel_rfl) h0 noI Try.func28 rfl rc28_ok rv28_ok (by
  intro xs q r cs' h hq
  split at h
  · cases h
    exact ⟨rfl, Nat.le_of_ble_eq_true rfl, walk28 ⟨_, _, _⟩⟩
  · cases h)
theorem s29 : Sound Try.prog 29 CS := sound_pure (by kernel_rfl) h0 noI Try.func29 rfl rc29_ok rv29_ok (by
  intro xs q r cs' h hq
  split at h
  · cases h
    exact ⟨rfl, Nat.le_of_ble_eq_true rfl, walk29 ⟨_, _, _⟩⟩
  · cases h)
theorem s30 : Sound Try.prog 30 CC := sound_pure (by kernel_rfl) h0 noI Try.func30 rfl rc30_ok rv30_ok (by
  intro xs q r cs' h hq
  split at h
  · cases h
    exact ⟨rfl, Nat.le_of_ble_eq_true rfl, walk30 _ _⟩
  · cases h)
theorem s31 : Sound Try.prog 31 CR := sound_pure (by kernel_rfl) h0 noI Try.func31 rfl rc31_ok rv31_ok (by
  intro xs q r cs' h hq
  split at h
  · cases h
    exact ⟨rfl, Nat.le_of_ble_eq_true rfl, walk31 _ _⟩
  · cases h)
theorem s27 : Sound Try.prog 27 CM := sound_pure (by kernel_rfl) h0 noI Try.func27 rfl rc27_ok rv27_ok (by
  intro xs q r cs' h hq
  split at h
  · cases h
    exact ⟨rfl, Nat.le_of_ble_eq_true rfl, walk27 _ _ hq⟩
  · cases h)
theorem h1 : ∀ f C, Phis [(27, CM), (28, CS), (29, CS), (30, CC), (31, CR)] f = some C → Sound Try.prog f C := (phis_cons s27 (phis_cons s28 (phis_cons s29 (phis_cons s30 (phis_cons s31 phis_nil)))))
theorem s14 : Sound Try.prog 14 CV := sound_pure (by kernel_rfl) h1 noI Try.func14 rfl rc14_ok rv14_ok (by
  intro xs q r cs' h hq
  split at h
  · cases h
    exact ⟨rfl, Nat.le_of_ble_eq_true rfl, walk14 rfl ⟨_, _, _⟩⟩
  · cases h)
theorem s15 : Sound Try.prog 15 CV := sound_pure (by kernel_rfl) h1 noI Try.func15 rfl rc15_ok rv15_ok (by
  intro xs q r cs' h hq
  split at h
  · cases h
    exact ⟨rfl, Nat.le_of_ble_eq_true rfl, walk15 rfl ⟨_, _, _⟩⟩
  · cases h)
theorem s9 : Sound Try.prog 9 CD := sound_pure (by kernel_rfl) h1 noI Try.func9 rfl rc9_ok rv9_ok (by
  intro xs q r cs' h hq
  split at h
  · cases h
    exact ⟨rfl, Nat.le_of_ble_eq_true rfl, walk9 rfl _ _ _⟩
  · cases h)
theorem h2 : ∀ f C, Phis [(14, CV), (15, CV), (9, CD), (27, CM), (28, CS), (29, CS), (30, CC), (31, CR)] f = some C → Sound Try.prog f C := (phis_cons s14 (phis_cons s15 (phis_cons s9 (phis_cons s27 (phis_cons s28 (phis_cons s29 (phis_cons s30 (phis_cons s31 phis_nil))))))))
theorem s10 : Sound Try.prog 10 CA := sound_pure (by kernel_rfl) h2 noI Try.func10 rfl rc10_ok rv10_ok (by
  intro xs q r cs' h hq
  split at h
  · cases h
    exact ⟨rfl, Nat.le_of_ble_eq_true rfl, walk10 rfl ⟨_, _, _⟩ _⟩
  · cases h)
theorem s11 : Sound Try.prog 11 CA := sound_pure (by kernel_rfl) h2 noI Try.func11 rfl rc11_ok rv11_ok (by
  intro xs q r cs' h hq
  split at h
  · cases h
    exact ⟨rfl, Nat.le_of_ble_eq_true rfl, walk11 rfl rfl ⟨_, _, _⟩ _⟩
  · cases h)
theorem s12 : Sound Try.prog 12 CT := sound_pure (by kernel_rfl) h2 noI Try.func12 rfl rc12_ok rv12_ok (by
  intro xs q r cs' h hq
  split at h
  · cases h
    exact ⟨rfl, Nat.le_of_ble_eq_true rfl, walk12 rfl rfl ⟨_, _, _⟩⟩
  · cases h)
theorem s13 : Sound Try.prog 13 CT := sound_pure (by kernel_rfl) h2 noI Try.func13 rfl rc13_ok rv13_ok (by
  intro xs q r cs' h hq
  split at h
  · cases h
    exact ⟨rfl, Nat.le_of_ble_eq_true rfl, walk13 rfl rfl ⟨_, _, _⟩⟩
  · cases h)
theorem s17 : Sound Try.prog 17 CJ := sound_pure (by kernel_rfl) h2 noI Try.func17 rfl rc17_ok rv17_ok (by
  intro xs q r cs' h hq
  split at h
  · cases h
    exact ⟨rfl, Nat.le_of_ble_eq_true rfl, walk17 rfl rfl rfl ⟨_, _, _⟩ _ hq.1 hq.2⟩
  · cases h)
theorem s18 : Sound Try.prog 18 CJ := sound_pure (by kernel_rfl) h2 noI Try.func18 rfl rc18_ok rv18_ok (by
  intro xs q r cs' h hq
  split at h
  · cases h
    exact ⟨rfl, Nat.le_of_ble_eq_true rfl, walk18 rfl rfl rfl ⟨_, _, _⟩ _ hq.1 hq.2⟩
  · cases h)
theorem h3 : ∀ f C, Phis [(10, CA), (11, CA), (12, CT), (13, CT), (17, CJ), (18, CJ), (14, CV), (15, CV), (9, CD), (27, CM), (28, CS), (29, CS), (30, CC), (31, CR)] f = some C → Sound Try.prog f C := (phis_cons s10 (phis_cons s11 (phis_cons s12 (phis_cons s13 (phis_cons s17 (phis_cons s18 (phis_cons s14 (phis_cons s15 (phis_cons s9 (phis_cons s27 (phis_cons s28 (phis_cons s29 (phis_cons s30 (phis_cons s31 phis_nil))))))))))))))
theorem s16 : Sound Try.prog 16 CW := sound_pure (by kernel_rfl) h3 noI Try.func16 rfl rc16_ok rv16_ok (by
  intro xs q r cs' h hq
  split at h
  · cases h
    exact ⟨rfl, Nat.le_of_ble_eq_true rfl, walk16 rfl rfl rfl⟩
  · cases h)
theorem s19 : Sound Try.prog 19 CL := by
  refine fun Z w xs vs q r cs' hz hr h hq => ?_
  simp only at h
  split at h
  · rename_i a b
    simp only [Option.some.injEq, Prod.mk.injEq] at h
    obtain ⟨rfl, rfl, _⟩ := h
    obtain ⟨l, m, rfl, rfl⟩ := hq
    have key : Sound Try.prog 19 ⟨false, fun _ ys => if ys = [.lst [.int .u16 0, .int .u32 0, .int .u16 0, .int .u8 0, .int .u8 0, .int .u8 0, .bool false, .int .u8 0, .int .u8 0, .int .u8 0] (evs l), .lst [.int .u16 0, .int .u32 0, .int .u16 0, .int .u8 0, .int .u8 0, .int .u8 0, .bool false, .int .u8 0, .int .u8 0, .int .u8 0] (evs m)] then some (True, .bool (decide (l = m)), []) else none⟩ :=
      sound_pure (by kernel_rfl) h0 (I19 l m) Try.func19 rfl rc19_ok rv19_ok (by
        intro xs q r cs' h _
        split at h
        · rename_i e; subst e
          cases h
          exact ⟨rfl, Nat.le_of_ble_eq_true rfl, walk19 l m⟩
        · cases h)
    rw [sameB_evs]
    exact key Z w _ vs True _ [] hz hr (by simp) trivial
  · cases h
theorem h4 : ∀ f C, Phis [(16, CW), (19, CL), (10, CA), (11, CA), (12, CT), (13, CT), (17, CJ), (18, CJ), (14, CV), (15, CV), (9, CD), (27, CM), (28, CS), (29, CS), (30, CC), (31, CR)] f = some C → Sound Try.prog f C := (phis_cons s16 (phis_cons s19 (phis_cons s10 (phis_cons s11 (phis_cons s12 (phis_cons s13 (phis_cons s17 (phis_cons s18 (phis_cons s14 (phis_cons s15 (phis_cons s9 (phis_cons s27 (phis_cons s28 (phis_cons s29 (phis_cons s30 (phis_cons s31 phis_nil))))))))))))))))
end Go.Proofs.Ytmcaedjlglpdeaa
