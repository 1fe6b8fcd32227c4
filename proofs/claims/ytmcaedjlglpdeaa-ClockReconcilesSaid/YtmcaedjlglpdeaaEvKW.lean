/- A part of the proof: symbolic evaluation of the program's functions, proved sound against the model; no condition. -/
import Derived.Test.YtmcaedjlglpdeaaEvKT
import Derived.Test.YtmcaedjlglpdeaaEvKV
namespace Go.Proofs.Ytmcaedjlglpdeaa
open Go Go.RowKit Go.Ev
set_option linter.unusedSimpArgs false
set_option linter.unusedVariables false
set_option maxRecDepth 20000
theorem s34 : Sound Try.prog 34 CMk := sound_pureI (by kernel_rfl) h0 Try.func34 rfl rc34_ok rv34_ok (by
  intro xs q r cs' h hq
  split at h
  · cases h
    exact ⟨noI, rfl, Nat.le_of_ble_eq_true rfl, walk34 ⟨_, _, _, _, _, _, _, _, _, _⟩⟩
  · cases h)
theorem s28 : Sound Try.prog 28 CS := sound_pureI (by kernel_rfl) h0 Try.func28 rfl rc28_ok rv28_ok (by
  intro xs q r cs' h hq
  split at h
  · cases h
    exact ⟨noI, rfl, Nat.le_of_ble_eq_true rfl, walk28 ⟨_, _, _⟩⟩
  · cases h)
theorem s31 : Sound Try.prog 31 CR := sound_pureI (by kernel_rfl) h0 Try.func31 rfl rc31_ok rv31_ok (by
  intro xs q r cs' h hq
  split at h
  · cases h
    exact ⟨noI, rfl, Nat.le_of_ble_eq_true rfl, walk31 _ _⟩
  · cases h)
theorem h9 : ∀ f C, Phis [(28, CS), (31, CR), (34, CMk)] f = some C → Sound Try.prog f C := (phis_cons s28 (phis_cons s31 (phis_cons s34 phis_nil)))
theorem s15 : Sound Try.prog 15 CV := sound_pureI (by kernel_rfl) h9 Try.func15 rfl rc15_ok rv15_ok (by
  intro xs q r cs' h hq
  split at h
  · cases h
    exact ⟨noI, rfl, Nat.le_of_ble_eq_true rfl, walk15 rfl ⟨_, _, _⟩⟩
  · cases h)
theorem h8 : ∀ f C, Phis [(15, CV), (28, CS), (31, CR), (34, CMk), (23, CDe), (16, CW), (32, CDy), (10, CA), (12, CT), (17, CJ), (24, CDb), (25, CRx), (14, CV), (33, CIs), (22, CDx), (29, CS), (30, CC), (27, CM), (20, CDl), (21, CRl)] f = some C → Sound Try.prog f C := (phis_cons s15 (phis_cons s28 (phis_cons s31 (phis_cons s34 (phis_cons s23 (phis_cons s16 (phis_cons s32 (phis_cons s10 (phis_cons s12 (phis_cons s17 (phis_cons s24 (phis_cons s25 (phis_cons s14 (phis_cons s33 (phis_cons s22 (phis_cons s29 (phis_cons s30 (phis_cons s27 (phis_cons s20 (phis_cons s21 phis_nil))))))))))))))))))))
theorem s26m : Sound Try.prog 26 CRc := sound_pureI (by kernel_rfl) h8 Try.func26 rfl rc26_ok rv26_ok (by
  intro xs q r cs' h hq
  split at h
  · rename_i zz es
    cases h
    obtain ⟨⟨rfl, he⟩, hn⟩ := hq
    obtain ⟨l, rfl⟩ : ∃ l, es = evs l := ⟨_, he⟩
    rw [evs_len] at hn
    simp only [decE_evs]
    exact ⟨I26 l, rfl, Nat.le_of_ble_eq_true rfl, walk26 rfl l hn⟩
  · cases h)
theorem s26 : Sound Try.prog 26 CRx := ext_of_mk s26m (by
  intro xs q g h
  split at h
  · cases h
    exact ⟨_, _, rfl, rfl, rfl, rfl⟩
  · cases h)
theorem s18 : Sound Try.prog 18 CJx := soundX_pureI (by kernel_rfl) h8 Try.func18 rfl rc18_ok rv18_ok (by
  intro xs q g h hq
  split at h
  · cases h
    obtain ⟨hc, h0, h1⟩ := hq
    exact ⟨noI, Nat.le_of_ble_eq_true rfl, walk18x rfl rfl rfl ⟨_, _, _⟩ _ hc h0 h1⟩
  · cases h)
theorem h10 : ∀ f C, Phis [(18, CJx), (26, CRx), (15, CV), (28, CS), (31, CR), (34, CMk), (23, CDe), (16, CW), (32, CDy), (10, CA), (12, CT), (17, CJ), (24, CDb), (25, CRx), (14, CV), (33, CIs), (22, CDx), (29, CS), (30, CC), (27, CM), (20, CDl), (21, CRl)] f = some C → Sound Try.prog f C := (phis_cons s18 (phis_cons s26 (phis_cons s15 (phis_cons s28 (phis_cons s31 (phis_cons s34 (phis_cons s23 (phis_cons s16 (phis_cons s32 (phis_cons s10 (phis_cons s12 (phis_cons s17 (phis_cons s24 (phis_cons s25 (phis_cons s14 (phis_cons s33 (phis_cons s22 (phis_cons s29 (phis_cons s30 (phis_cons s27 (phis_cons s20 (phis_cons s21 phis_nil))))))))))))))))))))))
end Go.Proofs.Ytmcaedjlglpdeaa
