/- A part of the proof: symbolic evaluation of the program's functions, proved sound against the model; no condition. -/
import Derived.Test.YtknapnleecepaaaEvJJ
import Derived.Test.YtknapnleecepaaaEvJQ
namespace Go.Proofs.Ytknapnleecepaaa
open Go Go.RowKit Go.Ev
set_option linter.unusedSimpArgs false
set_option linter.unusedVariables false
set_option maxRecDepth 20000
theorem s33 : Sound Try.prog 33 DLf := sound_stateI (by kernel_rfl) h0 Try.func33 rfl rc33_ok rv33_ok (by
  intro cs xs q r cs' h hq
  split at h
  · rename_i zz es a
    cases h
    obtain ⟨rfl, g1⟩ := hq
    obtain ⟨L, rfl⟩ : ∃ L, es = u8s L := ⟨_, g1⟩
    simp only [decU_u8s, u8s_len] at *
    exact ⟨noI, rfl, rfl, Nat.le_of_ble_eq_true rfl, walk33 L a⟩
  · cases h)
theorem hP : ∀ f C, Phis [(33, DLf)] f = some C → Sound Try.prog f C := (phis_cons s33 phis_nil)
theorem s20 : Sound Try.prog 20 DNe := sound_stateI (by kernel_rfl) hP Try.func20 rfl rc20_ok rv20_ok (by
  intro cs xs q r cs' h hq
  split at h
  · rename_i zz es a n
    cases h
    obtain ⟨⟨⟨rfl, g1⟩, gl⟩, ⟨ga, gn⟩, go⟩ := hq
    obtain ⟨L, rfl⟩ : ∃ L, es = u8s L := ⟨_, g1⟩
    simp only [decU_u8s, u8s_len] at *
    exact ⟨noI, rfl, rfl, Nat.le_of_ble_eq_true rfl, walk20 rfl L a n gl ga gn go⟩
  · cases h)
theorem hQ : ∀ f C, Phis [(20, DNe)] f = some C → Sound Try.prog f C := (phis_cons s20 phis_nil)
theorem s17 : Sound Try.prog 17 DBy := sound_stateI (by kernel_rfl) hQ Try.func17 rfl rc17_ok rv17_ok (by
  intro cs xs q r cs' h hq
  split at h
  · rename_i zz es a n
    cases h
    obtain ⟨⟨⟨rfl, g1⟩, gl⟩, ⟨ga, gn⟩, go⟩ := hq
    obtain ⟨L, rfl⟩ : ∃ L, es = u8s L := ⟨_, g1⟩
    simp only [decU_u8s, u8s_len] at *
    exact ⟨I17 L (byV L a n) (byA L a n), rfl, rfl, Nat.le_of_ble_eq_true rfl, walk17 rfl L a n gl ga gn go⟩
  · cases h)
theorem s14 : Sound Try.prog 14 DCo := soundX_pureI (by kernel_rfl) h0 Try.func14 rfl rc14_ok rv14_ok (by
  intro xs q g h hq
  split at h
  · rename_i zz es n
    cases h
    obtain ⟨⟨rfl, g1⟩, gn⟩ := hq
    obtain ⟨L, rfl⟩ : ∃ L, es = u8s L := ⟨_, g1⟩
    simp only [decU_u8s, u8s_len] at *
    exact ⟨noI, Nat.le_of_ble_eq_true rfl, walk14 L n gn⟩
  · cases h)
theorem hR : ∀ f C, Phis [(37, DNw), (20, DNe), (17, DBy), (22, DWr), (30, DBr), (24, DPo), (28, DRe), (31, DGr)] f = some C → Sound Try.prog f C := (phis_cons s37 (phis_cons s20 (phis_cons s17 (phis_cons s22 (phis_cons s30 (phis_cons s24 (phis_cons s28 (phis_cons s31 phis_nil))))))))
theorem s15 : Sound Try.prog 15 DPl := soundX_stateI (by kernel_rfl) hR Try.func15 rfl rc15_ok rv15_ok (by
  intro cs xs q g h hq
  split at h
  · rename_i zz es a n
    cases h
    obtain ⟨⟨⟨rfl, g1⟩, gl⟩, ⟨ga, gn⟩, go⟩ := hq
    obtain ⟨L, rfl⟩ : ∃ L, es = u8s L := ⟨_, g1⟩
    simp only [decU_u8s, u8s_len] at *
    exact ⟨I15 L, fun _ _ => rfl, Nat.le_of_ble_eq_true rfl, walk15 rfl rfl rfl rfl rfl rfl rfl rfl L a n gl ga gn go⟩
  · cases h)
theorem hS4 : ∀ f C, Phis [(8, DAw), (14, DCo), (15, DPl), (16, DGr), (17, DBy), (9, DEn), (18, DRe)] f = some C → Sound Try.prog f C := (phis_cons s8 (phis_cons s14 (phis_cons s15 (phis_cons s16 (phis_cons s17 (phis_cons s9 (phis_cons s18 phis_nil)))))))
end Go.Proofs.Ytknapnleecepaaa
