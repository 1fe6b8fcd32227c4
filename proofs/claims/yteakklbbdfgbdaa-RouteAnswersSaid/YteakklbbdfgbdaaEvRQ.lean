/- A part of the proof: symbolic evaluation of the program's functions, proved sound against the model; no condition. -/
import Derived.Test.YteakklbbdfgbdaaEvRN
import Derived.Test.YteakklbbdfgbdaaEvRO
import Derived.Test.YteakklbbdfgbdaaEvRP
namespace Go.Proofs.Yteakklbbdfgbdaa
open Go Go.RowKit Go.Ev
set_option linter.unusedSimpArgs false
set_option linter.unusedVariables false
set_option maxRecDepth 20000
theorem s29 : Sound Try.prog 29 CBu := sound_pureI (by kernel_rfl) h0 Try.func29 rfl rc29_ok rv29_ok (by
  intro xs q r cs' h hq
  split at h
  · rename_i x zz n cs
    cases h
    exact ⟨noI, rfl, Nat.le_of_ble_eq_true rfl, walk29 x n zz cs⟩
  · cases h)
theorem hG : ∀ f C, Phis [(29, CBu), (30, CAd)] f = some C → Sound Try.prog f C := (phis_cons s29 (phis_cons s30 phis_nil))
theorem s16 : Sound Try.prog 16 CVl := sound_pureI (by kernel_rfl) hG Try.func16 rfl rc16_ok rv16_ok (by
  intro xs q r cs' h hq
  split at h
  · rename_i n z1 e1 z2 e2
    cases h
    obtain ⟨⟨rfl, g1⟩, rfl, g2⟩ := hq
    obtain ⟨A, rfl⟩ : ∃ L, e1 = brs L := ⟨_, g1⟩
    obtain ⟨B, rfl⟩ : ∃ L, e2 = eps L := ⟨_, g2⟩
    simp only [decBr_brs, decEp_eps, brs_len, eps_len] at *
    exact ⟨I16 ⟨n, A, B⟩, rfl, Nat.le_of_ble_eq_true rfl, walk16 rfl rfl ⟨n, A, B⟩⟩
  · cases h)
theorem hH : ∀ f C, Phis [(23, CSd)] f = some C → Sound Try.prog f C := (phis_cons s23 phis_nil)
theorem s26 : Sound Try.prog 26 CFr := sound_pureI (by kernel_rfl) hH Try.func26 rfl rc26_ok rv26_ok (by
  intro xs q r cs' h hq
  split at h
  · rename_i n z1 e1 z2 e2 x
    cases h
    obtain ⟨⟨rfl, g1⟩, ⟨rfl, g2⟩, gl, gv, gn, gx⟩ := hq
    obtain ⟨A, rfl⟩ : ∃ L, e1 = brs L := ⟨_, g1⟩
    obtain ⟨B, rfl⟩ : ∃ L, e2 = eps L := ⟨_, g2⟩
    simp only [decBr_brs, decEp_eps, brs_len, eps_len] at *
    exact ⟨I26 ⟨n, A, B⟩ x, rfl, Nat.le_of_ble_eq_true rfl, walk26 rfl ⟨n, A, B⟩ x gl gv gn gx⟩
  · cases h)
theorem hI : ∀ f C, Phis [(16, CVl), (26, CFr), (27, CFa)] f = some C → Sound Try.prog f C := (phis_cons s16 (phis_cons s26 (phis_cons s27 phis_nil)))
theorem s14 : Sound Try.prog 14 CDi := sound_pureI (by kernel_rfl) hI Try.func14 rfl rc14_ok rv14_ok (by
  intro xs q r cs' h hq
  split at h
  · rename_i n z1 e1 z2 e2 a b
    cases h
    obtain ⟨⟨rfl, g1⟩, rfl, g2⟩ := hq
    obtain ⟨A, rfl⟩ : ∃ L, e1 = brs L := ⟨_, g1⟩
    obtain ⟨B, rfl⟩ : ∃ L, e2 = eps L := ⟨_, g2⟩
    simp only [decBr_brs, decEp_eps, brs_len, eps_len] at *
    exact ⟨noI, rfl, Nat.le_of_ble_eq_true rfl, walk14 rfl rfl rfl ⟨n, A, B⟩ a b⟩
  · cases h)
theorem hJ : ∀ f C, Phis [(16, CVl), (33, CEp), (26, CFr), (27, CFa), (23, CSd)] f = some C → Sound Try.prog f C := (phis_cons s16 (phis_cons s33 (phis_cons s26 (phis_cons s27 (phis_cons s23 phis_nil)))))
theorem s18 : Sound Try.prog 18 CNx := sound_pureI (by kernel_rfl) hJ Try.func18 rfl rc18_ok rv18_ok (by
  intro xs q r cs' h hq
  split at h
  · rename_i n z1 e1 z2 e2 u id
    cases h
    obtain ⟨⟨rfl, g1⟩, rfl, g2⟩ := hq
    obtain ⟨A, rfl⟩ : ∃ L, e1 = brs L := ⟨_, g1⟩
    obtain ⟨B, rfl⟩ : ∃ L, e2 = eps L := ⟨_, g2⟩
    simp only [decBr_brs, decEp_eps, brs_len, eps_len] at *
    exact ⟨I18 ⟨n, A, B⟩ u id, rfl, Nat.le_of_ble_eq_true rfl, walk18 rfl rfl rfl rfl rfl ⟨n, A, B⟩ u id⟩
  · cases h)
theorem hK : ∀ f C, Phis [(18, CNx), (23, CSd)] f = some C → Sound Try.prog f C := (phis_cons s18 (phis_cons s23 phis_nil))
theorem s20 : Sound Try.prog 20 CPt := sound_pureI (by kernel_rfl) hK Try.func20 rfl rc20_ok rv20_ok (by
  intro xs q r cs' h hq
  split at h
  · rename_i n z1 e1 z2 e2 u id
    cases h
    obtain ⟨⟨rfl, g1⟩, rfl, g2⟩ := hq
    obtain ⟨A, rfl⟩ : ∃ L, e1 = brs L := ⟨_, g1⟩
    obtain ⟨B, rfl⟩ : ∃ L, e2 = eps L := ⟨_, g2⟩
    simp only [decBr_brs, decEp_eps, brs_len, eps_len] at *
    exact ⟨I20 ⟨n, A, B⟩ u id, rfl, Nat.le_of_ble_eq_true rfl, walk20 rfl rfl ⟨n, A, B⟩ u id⟩
  · cases h)
end Go.Proofs.Yteakklbbdfgbdaa
