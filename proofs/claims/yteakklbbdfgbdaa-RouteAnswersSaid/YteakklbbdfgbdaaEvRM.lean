/- A part of the proof: symbolic evaluation of the program's functions, proved sound against the model; no condition. -/
import Derived.Test.YteakklbbdfgbdaaEvRF
import Derived.Test.YteakklbbdfgbdaaEvRG
import Derived.Test.YteakklbbdfgbdaaEvRH
import Derived.Test.YteakklbbdfgbdaaEvRI
import Derived.Test.YteakklbbdfgbdaaEvRJ
import Derived.Test.YteakklbbdfgbdaaEvRK
import Derived.Test.YteakklbbdfgbdaaEvRL
namespace Go.Proofs.Yteakklbbdfgbdaa
open Go Go.RowKit Go.Ev
set_option linter.unusedSimpArgs false
set_option linter.unusedVariables false
set_option maxRecDepth 20000
theorem h0 : ∀ f C, Phis [] f = some C → Sound Try.prog f C := phis_nil
theorem s23 : Sound Try.prog 23 CSd := sound_pureI (by kernel_rfl) h0 Try.func23 rfl rc23_ok rv23_ok (by
  intro xs q r cs' h hq
  split at h
  · rename_i a l r x
    cases h
    exact ⟨noI, rfl, Nat.le_of_ble_eq_true rfl, walk23 ⟨a, l, r⟩ x⟩
  · cases h)
theorem s24 : Sound Try.prog 24 CSd := sound_pureI (by kernel_rfl) h0 Try.func24 rfl rc24_ok rv24_ok (by
  intro xs q r cs' h hq
  split at h
  · rename_i a l r x
    cases h
    exact ⟨noI, rfl, Nat.le_of_ble_eq_true rfl, walk24 ⟨a, l, r⟩ x⟩
  · cases h)
theorem s27 : Sound Try.prog 27 CFa := sound_pureI (by kernel_rfl) h0 Try.func27 rfl rc27_ok rv27_ok (by
  intro xs q r cs' h hq
  split at h
  · rename_i d
    cases h
    exact ⟨noI, rfl, Nat.le_of_ble_eq_true rfl, walk27 d⟩
  · cases h)
theorem s30 : Sound Try.prog 30 CAd := sound_pureI (by kernel_rfl) h0 Try.func30 rfl rc30_ok rv30_ok (by
  intro xs q r cs' h hq
  split at h
  · rename_i a
    cases h
    exact ⟨noI, rfl, Nat.le_of_ble_eq_true rfl, walk30 a⟩
  · cases h)
theorem s33 : Sound Try.prog 33 CEp := sound_pureI (by kernel_rfl) h0 Try.func33 rfl rc33_ok rv33_ok (by
  intro xs q r cs' h hq
  split at h
  · rename_i n z1 e1 z2 e2 id
    cases h
    obtain ⟨⟨rfl, g1⟩, ⟨rfl, g2⟩, gl⟩ := hq
    obtain ⟨A, rfl⟩ : ∃ L, e1 = brs L := ⟨_, g1⟩
    obtain ⟨B, rfl⟩ : ∃ L, e2 = eps L := ⟨_, g2⟩
    simp only [decBr_brs, decEp_eps, brs_len, eps_len] at *
    exact ⟨I33 ⟨n, A, B⟩ id, rfl, Nat.le_of_ble_eq_true rfl, walk33 ⟨n, A, B⟩ id gl⟩
  · cases h)
theorem s32 : Sound Try.prog 32 CTk := sound_pureI (by kernel_rfl) h0 Try.func32 rfl rc32_ok rv32_ok (by
  intro xs q r cs' h hq
  split at h
  · rename_i zz es x a
    cases h
    obtain ⟨⟨rfl, g1⟩, gl⟩ := hq
    obtain ⟨A, rfl⟩ : ∃ L, es = brs L := ⟨_, g1⟩
    simp only [decBr_brs, decEp_eps, brs_len, eps_len] at *
    exact ⟨I32 A x a, rfl, Nat.le_of_ble_eq_true rfl, walk32 A x a gl⟩
  · cases h)
theorem hA : ∀ f C, Phis [(32, CTk)] f = some C → Sound Try.prog f C := (phis_cons s32 phis_nil)
theorem s31 : Sound Try.prog 31 CBr := sound_pureI (by kernel_rfl) hA Try.func31 rfl rc31_ok rv31_ok (by
  intro xs q r cs' h hq
  split at h
  · rename_i n z1 e1 z2 e2
    cases h
    obtain ⟨⟨rfl, g1⟩, ⟨rfl, g2⟩, gl⟩ := hq
    obtain ⟨A, rfl⟩ : ∃ L, e1 = brs L := ⟨_, g1⟩
    obtain ⟨B, rfl⟩ : ∃ L, e2 = eps L := ⟨_, g2⟩
    simp only [decBr_brs, decEp_eps, brs_len, eps_len] at *
    exact ⟨I31 ⟨n, A, B⟩, rfl, Nat.le_of_ble_eq_true rfl, walk31 rfl ⟨n, A, B⟩ gl⟩
  · cases h)
theorem hB : ∀ f C, Phis [(31, CBr), (32, CTk)] f = some C → Sound Try.prog f C := (phis_cons s31 (phis_cons s32 phis_nil))
theorem s17 : Sound Try.prog 17 CVl := sound_pureI (by kernel_rfl) hB Try.func17 rfl rc17_ok rv17_ok (by
  intro xs q r cs' h hq
  split at h
  · rename_i n z1 e1 z2 e2
    cases h
    obtain ⟨⟨rfl, g1⟩, rfl, g2⟩ := hq
    obtain ⟨A, rfl⟩ : ∃ L, e1 = brs L := ⟨_, g1⟩
    obtain ⟨B, rfl⟩ : ∃ L, e2 = eps L := ⟨_, g2⟩
    simp only [decBr_brs, decEp_eps, brs_len, eps_len] at *
    exact ⟨I17 ⟨n, A, B⟩, rfl, Nat.le_of_ble_eq_true rfl, walk17 rfl rfl ⟨n, A, B⟩⟩
  · cases h)
theorem hC : ∀ f C, Phis [(24, CSd)] f = some C → Sound Try.prog f C := (phis_cons s24 phis_nil)
theorem s28 : Sound Try.prog 28 CFr := sound_pureI (by kernel_rfl) hC Try.func28 rfl rc28_ok rv28_ok (by
  intro xs q r cs' h hq
  split at h
  · rename_i n z1 e1 z2 e2 x
    cases h
    obtain ⟨⟨rfl, g1⟩, ⟨rfl, g2⟩, gl, gv, gn, gx⟩ := hq
    obtain ⟨A, rfl⟩ : ∃ L, e1 = brs L := ⟨_, g1⟩
    obtain ⟨B, rfl⟩ : ∃ L, e2 = eps L := ⟨_, g2⟩
    simp only [decBr_brs, decEp_eps, brs_len, eps_len] at *
    exact ⟨I28 ⟨n, A, B⟩ x, rfl, Nat.le_of_ble_eq_true rfl, walk28 rfl ⟨n, A, B⟩ x gl gv gn gx⟩
  · cases h)
theorem hD : ∀ f C, Phis [(17, CVl), (28, CFr)] f = some C → Sound Try.prog f C := (phis_cons s17 (phis_cons s28 phis_nil))
theorem s15 : Sound Try.prog 15 CDi := sound_pureI (by kernel_rfl) hD Try.func15 rfl rc15_ok rv15_ok (by
  intro xs q r cs' h hq
  split at h
  · rename_i n z1 e1 z2 e2 a b
    cases h
    obtain ⟨⟨rfl, g1⟩, rfl, g2⟩ := hq
    obtain ⟨A, rfl⟩ : ∃ L, e1 = brs L := ⟨_, g1⟩
    obtain ⟨B, rfl⟩ : ∃ L, e2 = eps L := ⟨_, g2⟩
    simp only [decBr_brs, decEp_eps, brs_len, eps_len] at *
    exact ⟨noI, rfl, Nat.le_of_ble_eq_true rfl, walk15 rfl rfl ⟨n, A, B⟩ a b⟩
  · cases h)
theorem hE : ∀ f C, Phis [(17, CVl), (15, CDi), (28, CFr), (24, CSd)] f = some C → Sound Try.prog f C := (phis_cons s17 (phis_cons s15 (phis_cons s28 (phis_cons s24 phis_nil))))
theorem s19 : Sound Try.prog 19 CNx := sound_pureI (by kernel_rfl) hE Try.func19 rfl rc19_ok rv19_ok (by
  intro xs q r cs' h hq
  split at h
  · rename_i n z1 e1 z2 e2 u id
    cases h
    obtain ⟨⟨rfl, g1⟩, rfl, g2⟩ := hq
    obtain ⟨A, rfl⟩ : ∃ L, e1 = brs L := ⟨_, g1⟩
    obtain ⟨B, rfl⟩ : ∃ L, e2 = eps L := ⟨_, g2⟩
    simp only [decBr_brs, decEp_eps, brs_len, eps_len] at *
    exact ⟨I19 ⟨n, A, B⟩ u id, rfl, Nat.le_of_ble_eq_true rfl, walk19 rfl rfl rfl rfl ⟨n, A, B⟩ u id⟩
  · cases h)
theorem hF : ∀ f C, Phis [(19, CNx), (24, CSd)] f = some C → Sound Try.prog f C := (phis_cons s19 (phis_cons s24 phis_nil))
theorem s21 : Sound Try.prog 21 CPt := sound_pureI (by kernel_rfl) hF Try.func21 rfl rc21_ok rv21_ok (by
  intro xs q r cs' h hq
  split at h
  · rename_i n z1 e1 z2 e2 u id
    cases h
    obtain ⟨⟨rfl, g1⟩, rfl, g2⟩ := hq
    obtain ⟨A, rfl⟩ : ∃ L, e1 = brs L := ⟨_, g1⟩
    obtain ⟨B, rfl⟩ : ∃ L, e2 = eps L := ⟨_, g2⟩
    simp only [decBr_brs, decEp_eps, brs_len, eps_len] at *
    exact ⟨I21 ⟨n, A, B⟩ u id, rfl, Nat.le_of_ble_eq_true rfl, walk21 rfl rfl ⟨n, A, B⟩ u id⟩
  · cases h)
end Go.Proofs.Yteakklbbdfgbdaa
