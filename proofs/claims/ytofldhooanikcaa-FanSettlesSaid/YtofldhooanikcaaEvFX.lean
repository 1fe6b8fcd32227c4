/- A part of the proof: symbolic evaluation of the program's functions, proved sound against the model; no condition. -/
import Derived.Test.YtofldhooanikcaaEvFW
import Derived.Test.YtofldhooanikcaaEvFP
namespace Go.Proofs.Ytofldhooanikcaa
open Go Go.RowKit Go.Ev
set_option linter.unusedSimpArgs false
set_option linter.unusedVariables false
set_option maxRecDepth 20000
theorem s22 : Sound Try.prog 22 CSe := sound_pureI (by kernel_rfl) h6 Try.func22 rfl rc22_ok rv22_ok (by
  intro xs q r cs' h hq
  split at h
  · rename_i zz es t g i l m s o u e
    cases h
    have HZ := hq
    obtain ⟨rfl, he⟩ := HZ
    obtain ⟨L, rfl⟩ : ∃ L, es = u8s L := ⟨_, he⟩
    simp only [decU_u8s, decI_i64s, decB_bls] at *
    exact ⟨I22 ⟨L, t, g, i, l, m, s⟩ ⟨o, u⟩ e, rfl, Nat.le_of_ble_eq_true rfl, walk22 rfl rfl rfl ⟨L, t, g, i, l, m, s⟩ ⟨o, u⟩ e⟩
  · cases h)
theorem s23 : Sound Try.prog 23 CSe := sound_pureI (by kernel_rfl) h6 Try.func23 rfl rc23_ok rv23_ok (by
  intro xs q r cs' h hq
  split at h
  · rename_i zz es t g i l m s o u e
    cases h
    have HZ := hq
    obtain ⟨rfl, he⟩ := HZ
    obtain ⟨L, rfl⟩ : ∃ L, es = u8s L := ⟨_, he⟩
    simp only [decU_u8s, decI_i64s, decB_bls] at *
    exact ⟨I22 ⟨L, t, g, i, l, m, s⟩ ⟨o, u⟩ e, rfl, Nat.le_of_ble_eq_true rfl, walk23 rfl rfl ⟨L, t, g, i, l, m, s⟩ ⟨o, u⟩ e⟩
  · cases h)
theorem h7 : ∀ f C, Phis [(22, CSe), (23, CSe), (15, CSame), (27, CSp), (9, CAwake), (21, CDe), (40, CCt), (18, CSp), (19, CSd), (16, CSt), (20, CEx), (26, CEx), (30, CDe), (33, CCt), (11, CZo), (12, CSpd), (13, CRd), (17, CV), (34, CMv), (14, CNx), (25, CSt), (29, CSd), (38, CWn), (31, CWi), (32, CWi), (37, CLim), (39, CLim), (41, CLim), (36, CFlr), (42, CDwn), (28, CV), (35, CTop), (44, CTop), (43, CTw), (24, CLf), (10, CNw)] f = some C → Sound Try.prog f C := (phis_cons s22 (phis_cons s23 (phis_cons s15 (phis_cons s27 (phis_cons s9 (phis_cons s21 (phis_cons s40 (phis_cons s18 (phis_cons s19 (phis_cons s16 (phis_cons s20 (phis_cons s26 (phis_cons s30 (phis_cons s33 (phis_cons s11 (phis_cons s12 (phis_cons s13 (phis_cons s17 (phis_cons s34 (phis_cons s14 (phis_cons s25 (phis_cons s29 (phis_cons s38 (phis_cons s31 (phis_cons s32 (phis_cons s37 (phis_cons s39 (phis_cons s41 (phis_cons s36 (phis_cons s42 (phis_cons s28 (phis_cons s35 (phis_cons s44 (phis_cons s43 (phis_cons s24 (phis_cons s10 phis_nil))))))))))))))))))))))))))))))))))))
end Go.Proofs.Ytofldhooanikcaa
