/- A part of the proof: symbolic evaluation of the program's functions, proved sound against the model; no condition. -/
import Derived.Test.YtmcaedjlglpdeaaEvKL
import Derived.Test.YtmcaedjlglpdeaaEvKM
import Derived.Test.YtmcaedjlglpdeaaEvZ
namespace Go.Proofs.Ytmcaedjlglpdeaa
open Go Go.RowKit Go.Ev
set_option linter.unusedSimpArgs false
set_option linter.unusedVariables false
set_option maxRecDepth 20000
theorem h0 : ∀ f C, Phis [] f = some C → Sound Try.prog f C := phis_nil
theorem s29 : Sound Try.prog 29 CS := sound_pureI (by kernel_rfl) h0 Try.func29 rfl rc29_ok rv29_ok (by
  intro xs q r cs' h hq
  split at h
  · cases h
    exact ⟨noI, rfl, Nat.le_of_ble_eq_true rfl, walk29 ⟨_, _, _⟩⟩
  · cases h)
theorem s30 : Sound Try.prog 30 CC := sound_pureI (by kernel_rfl) h0 Try.func30 rfl rc30_ok rv30_ok (by
  intro xs q r cs' h hq
  split at h
  · cases h
    exact ⟨noI, rfl, Nat.le_of_ble_eq_true rfl, walk30 _ _⟩
  · cases h)
theorem s27 : Sound Try.prog 27 CM := sound_pureI (by kernel_rfl) h0 Try.func27 rfl rc27_ok rv27_ok (by
  intro xs q r cs' h hq
  split at h
  · cases h
    exact ⟨noI, rfl, Nat.le_of_ble_eq_true rfl, walk27 _ _ hq⟩
  · cases h)
theorem s20 : Sound Try.prog 20 CDl := sound_pureI (by kernel_rfl) h0 Try.func20 rfl rc20_ok rv20_ok (by
  intro xs q r cs' h hq
  split at h
  · rename_i zz es
    cases h
    obtain ⟨rfl, he⟩ := hq
    obtain ⟨L, rfl⟩ : ∃ L, es = i64s L := ⟨_, he⟩
    simp only [decI_i64s] at *
    exact ⟨noI, rfl, Nat.le_of_ble_eq_true rfl, walk20 L⟩
  · cases h)
theorem s21 : Sound Try.prog 21 CRl := soundX_pureI (by kernel_rfl) h0 Try.func21 rfl rc21_ok rv21_ok (by
  intro xs q g h hq
  split at h
  · rename_i zz es
    cases h
    obtain ⟨rfl, he⟩ := hq
    obtain ⟨L, rfl⟩ : ∃ L, es = i64s L := ⟨_, he⟩
    simp only [decI_i64s] at *
    exact ⟨noI, Nat.le_of_ble_eq_true rfl, walk21 L⟩
  · cases h)
theorem h1 : ∀ f C, Phis [(29, CS), (30, CC), (27, CM), (20, CDl), (21, CRl)] f = some C → Sound Try.prog f C := (phis_cons s29 (phis_cons s30 (phis_cons s27 (phis_cons s20 (phis_cons s21 phis_nil)))))
theorem s14 : Sound Try.prog 14 CV := sound_pureI (by kernel_rfl) h1 Try.func14 rfl rc14_ok rv14_ok (by
  intro xs q r cs' h hq
  split at h
  · cases h
    exact ⟨noI, rfl, Nat.le_of_ble_eq_true rfl, walk14 rfl ⟨_, _, _⟩⟩
  · cases h)
theorem s33 : Sound Try.prog 33 CIs := sound_pureI (by kernel_rfl) h1 Try.func33 rfl rc33_ok rv33_ok (by
  intro xs q r cs' h hq
  split at h
  · cases h
    exact ⟨noI, rfl, Nat.le_of_ble_eq_true rfl, walk33 rfl ⟨_, _, _, _, _, _, _, _, _, _⟩ _⟩
  · cases h)
theorem s22 : Sound Try.prog 22 CDx := sound_stateI (by kernel_rfl) h1 Try.func22 rfl rc22_ok rv22_ok (by
  intro cs xs q r cs' h hq
  split at h
  · rename_i zz es a n
    cases h
    obtain ⟨⟨rfl, he⟩, ha, hn⟩ := hq
    obtain ⟨L, rfl⟩ : ∃ L, es = i64s L := ⟨_, he⟩
    simp only [decI_i64s] at *
    exact ⟨noI, rfl, rfl, Nat.le_of_ble_eq_true rfl, walk22 rfl L a n ha hn⟩
  · cases h)
theorem h2 : ∀ f C, Phis [(14, CV), (33, CIs), (22, CDx), (29, CS), (30, CC), (27, CM), (20, CDl), (21, CRl)] f = some C → Sound Try.prog f C := (phis_cons s14 (phis_cons s33 (phis_cons s22 (phis_cons s29 (phis_cons s30 (phis_cons s27 (phis_cons s20 (phis_cons s21 phis_nil))))))))
theorem s10 : Sound Try.prog 10 CA := sound_pureI (by kernel_rfl) h2 Try.func10 rfl rc10_ok rv10_ok (by
  intro xs q r cs' h hq
  split at h
  · cases h
    exact ⟨noI, rfl, Nat.le_of_ble_eq_true rfl, walk10 rfl ⟨_, _, _⟩ _⟩
  · cases h)
theorem s12 : Sound Try.prog 12 CT := sound_pureI (by kernel_rfl) h2 Try.func12 rfl rc12_ok rv12_ok (by
  intro xs q r cs' h hq
  split at h
  · cases h
    exact ⟨noI, rfl, Nat.le_of_ble_eq_true rfl, walk12 rfl rfl ⟨_, _, _⟩⟩
  · cases h)
theorem s17 : Sound Try.prog 17 CJ := sound_pureI (by kernel_rfl) h2 Try.func17 rfl rc17_ok rv17_ok (by
  intro xs q r cs' h hq
  split at h
  · cases h
    exact ⟨noI, rfl, Nat.le_of_ble_eq_true rfl, walk17 rfl rfl rfl ⟨_, _, _⟩ _ hq.1 hq.2⟩
  · cases h)
theorem s24 : Sound Try.prog 24 CDb := sound_stateI (by kernel_rfl) h2 Try.func24 rfl rc24_ok rv24_ok (by
  intro cs xs q r cs' h hq
  split at h
  · rename_i zz es a n
    cases h
    obtain ⟨⟨rfl, he⟩, ha, hn⟩ := hq
    obtain ⟨L, rfl⟩ : ∃ L, es = i64s L := ⟨_, he⟩
    simp only [decI_i64s] at *
    exact ⟨noI, rfl, rfl, Nat.le_of_ble_eq_true rfl, walk24 rfl L a n ha hn⟩
  · cases h)
theorem s25m : Sound Try.prog 25 CRc := sound_pureI (by kernel_rfl) h2 Try.func25 rfl rc25_ok rv25_ok (by
  intro xs q r cs' h hq
  split at h
  · rename_i zz es
    cases h
    obtain ⟨⟨rfl, he⟩, hn⟩ := hq
    obtain ⟨l, rfl⟩ : ∃ l, es = evs l := ⟨_, he⟩
    rw [evs_len] at hn
    simp only [decE_evs]
    exact ⟨I25 l, rfl, Nat.le_of_ble_eq_true rfl, walk25 rfl l hn⟩
  · cases h)
theorem s25 : Sound Try.prog 25 CRx := ext_of_mk s25m (by
  intro xs q g h
  split at h
  · cases h
    exact ⟨_, _, rfl, rfl, rfl, rfl⟩
  · cases h)
theorem h3 : ∀ f C, Phis [(10, CA), (12, CT), (17, CJ), (24, CDb), (25, CRx), (14, CV), (33, CIs), (22, CDx), (29, CS), (30, CC), (27, CM), (20, CDl), (21, CRl)] f = some C → Sound Try.prog f C := (phis_cons s10 (phis_cons s12 (phis_cons s17 (phis_cons s24 (phis_cons s25 (phis_cons s14 (phis_cons s33 (phis_cons s22 (phis_cons s29 (phis_cons s30 (phis_cons s27 (phis_cons s20 (phis_cons s21 phis_nil)))))))))))))
theorem s16 : Sound Try.prog 16 CW := sound_pureI (by kernel_rfl) h3 Try.func16 rfl rc16_ok rv16_ok (by
  intro xs q r cs' h hq
  split at h
  · cases h
    exact ⟨noI, rfl, Nat.le_of_ble_eq_true rfl, walk16 rfl rfl rfl⟩
  · cases h)
theorem s32 : Sound Try.prog 32 CDy := sound_stateI (by kernel_rfl) h3 Try.func32 rfl rc32_ok rv32_ok (by
  intro cs xs q r cs' h hq
  split at h
  · rename_i zz es a
    cases h
    obtain ⟨⟨rfl, he⟩, ha⟩ := hq
    obtain ⟨L, rfl⟩ : ∃ L, es = i64s L := ⟨_, he⟩
    simp only [decI_i64s] at *
    exact ⟨noI, rfl, rfl, Nat.le_of_ble_eq_true rfl, walk32 rfl rfl L a ha⟩
  · cases h)
theorem h4 : ∀ f C, Phis [(16, CW), (32, CDy), (10, CA), (12, CT), (17, CJ), (24, CDb), (25, CRx), (14, CV), (33, CIs), (22, CDx), (29, CS), (30, CC), (27, CM), (20, CDl), (21, CRl)] f = some C → Sound Try.prog f C := (phis_cons s16 (phis_cons s32 (phis_cons s10 (phis_cons s12 (phis_cons s17 (phis_cons s24 (phis_cons s25 (phis_cons s14 (phis_cons s33 (phis_cons s22 (phis_cons s29 (phis_cons s30 (phis_cons s27 (phis_cons s20 (phis_cons s21 phis_nil)))))))))))))))
theorem s23 : Sound Try.prog 23 CDe := soundX_stateI (by kernel_rfl) h4 Try.func23 rfl rc23_ok rv23_ok (by
  intro cs xs q g h hq
  split at h
  · rename_i zz es a
    cases h
    obtain ⟨⟨rfl, he⟩, ha⟩ := hq
    obtain ⟨L, rfl⟩ : ∃ L, es = i64s L := ⟨_, he⟩
    simp only [decI_i64s] at *
    exact ⟨noI, fun _ _ => rfl, Nat.le_of_ble_eq_true rfl, walk23 rfl rfl rfl L a ha⟩
  · cases h)
theorem h7 : ∀ f C, Phis [(23, CDe), (16, CW), (32, CDy), (10, CA), (12, CT), (17, CJ), (24, CDb), (25, CRx), (14, CV), (33, CIs), (22, CDx), (29, CS), (30, CC), (27, CM), (20, CDl), (21, CRl)] f = some C → Sound Try.prog f C := (phis_cons s23 (phis_cons s16 (phis_cons s32 (phis_cons s10 (phis_cons s12 (phis_cons s17 (phis_cons s24 (phis_cons s25 (phis_cons s14 (phis_cons s33 (phis_cons s22 (phis_cons s29 (phis_cons s30 (phis_cons s27 (phis_cons s20 (phis_cons s21 phis_nil))))))))))))))))
end Go.Proofs.Ytmcaedjlglpdeaa
