/- A part of the proof: symbolic evaluation of the program's functions, proved sound against the model; no condition. -/
import Derived.Test.YteakklbbdfgbdaaEvRM
namespace Go.Proofs.Yteakklbbdfgbdaa
open Go Go.RowKit Go.Ev
set_option linter.unusedSimpArgs false
set_option linter.unusedVariables false
set_option maxRecDepth 20000
theorem s25 : Sound Try.prog 25 DLf := sound_stateI (by kernel_rfl) h0 Try.func25 rfl rc25_ok rv25_ok (by
  intro cs xs q r cs' h hq
  split at h
  · rename_i zz es a
    cases h
    obtain ⟨rfl, g1⟩ := hq
    obtain ⟨L, rfl⟩ : ∃ L, es = u8s L := ⟨_, g1⟩
    simp only [decU_u8s, u8s_len] at *
    exact ⟨noI, rfl, rfl, Nat.le_of_ble_eq_true rfl, walk25 L a⟩
  · cases h)
theorem hP : ∀ f C, Phis [(25, DLf)] f = some C → Sound Try.prog f C := (phis_cons s25 phis_nil)
theorem s13 : Sound Try.prog 13 DNe := sound_stateI (by kernel_rfl) hP Try.func13 rfl rc13_ok rv13_ok (by
  intro cs xs q r cs' h hq
  split at h
  · rename_i zz es a n
    cases h
    obtain ⟨⟨⟨rfl, g1⟩, gl⟩, ⟨ga, gn⟩, go⟩ := hq
    obtain ⟨L, rfl⟩ : ∃ L, es = u8s L := ⟨_, g1⟩
    simp only [decU_u8s, u8s_len] at *
    exact ⟨noI, rfl, rfl, Nat.le_of_ble_eq_true rfl, walk13 rfl L a n gl ga gn go⟩
  · cases h)
theorem s10 : Sound Try.prog 10 DCo := soundX_pureI (by kernel_rfl) h0 Try.func10 rfl rc10_ok rv10_ok (by
  intro xs q g h hq
  split at h
  · rename_i zz es n
    cases h
    obtain ⟨⟨rfl, g1⟩, gn⟩ := hq
    obtain ⟨L, rfl⟩ : ∃ L, es = u8s L := ⟨_, g1⟩
    simp only [decU_u8s, u8s_len] at *
    exact ⟨noI, Nat.le_of_ble_eq_true rfl, walk10 L n gn⟩
  · cases h)
theorem s22 : Sound Try.prog 22 CIn := sound_pureI (by kernel_rfl) h0 Try.func22 rfl rc22_ok rv22_ok (by
  intro xs q r cs' h hq
  split at h
  · rename_i z1 e1 z2 e2
    cases h
    obtain ⟨⟨rfl, ha⟩, rfl, hb⟩ := hq
    obtain ⟨A, rfl⟩ : ∃ L, e1 = i64s L := ⟨_, ha⟩
    obtain ⟨B, rfl⟩ : ∃ L, e2 = i64s L := ⟨_, hb⟩
    simp only [decI_i64s] at *
    exact ⟨I22 A B, rfl, Nat.le_of_ble_eq_true rfl, walk22 A B⟩
  · cases h)
end Go.Proofs.Yteakklbbdfgbdaa
