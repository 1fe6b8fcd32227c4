/- A part of the proof: symbolic evaluation of the program's functions, proved sound against the model; no condition. -/
import Derived.Test.YtknapnleecepaaaEvJS
import Derived.Test.YtknapnleecepaaaEvJW
namespace Go.Proofs.Ytknapnleecepaaa
open Go Go.RowKit Go.Ev
set_option linter.unusedSimpArgs false
set_option linter.unusedVariables false
set_option maxRecDepth 20000
theorem h19 : ∀ f C, Phis [(40, DCn), (20, DNe)] f = some C → Sound Try.prog f C := phis_cons s40 (phis_cons s20 phis_nil)
theorem s19 : Sound Try.prog 19 DOd := sound_stateI (by kernel_rfl) h19 Try.func19 rfl rc19_ok rv19_ok (by
  intro cs xs q r cs' h hq
  split at h
  · cases h
    rename_i zz es a z1 e1 b1 z2 e2 b2 b3 n1 n2 n3 n4 n5
    obtain ⟨⟨⟨⟨rfl, g0⟩, gl⟩, ga, go⟩, ⟨⟨rfl, g1⟩, rfl, g2⟩, gb⟩ := hq
    obtain ⟨L, rfl⟩ : ∃ L, es = u8s L := ⟨_, g0⟩
    obtain ⟨A, rfl⟩ : ∃ L, e1 = u8s L := ⟨_, g1⟩
    obtain ⟨B, rfl⟩ : ∃ L, e2 = u8s L := ⟨_, g2⟩
    simp only [decU_u8s, u8s_len] at *
    exact ⟨noI, rfl, rfl, Nat.le_of_ble_eq_true rfl, walk19 rfl rfl L a ⟨A, b1, B, b2, b3, n1, n2, n3, n4, n5⟩ gl ga go gb⟩
  · cases h)
theorem hT5 : ∀ f C, Phis [(8, DAw), (14, DCo), (15, DPl), (19, DOd), (20, DNe), (21, DWr), (22, DWr), (23, DPo), (24, DPo), (25, DVa), (26, DVa), (27, DSa), (18, DRe), (28, DRe), (29, DBr), (30, DBr), (16, DGr), (31, DGr)] f = some C → Sound Try.prog f C := (phis_cons s8 (phis_cons s14 (phis_cons s15 (phis_cons s19 (phis_cons s20 (phis_cons s21 (phis_cons s22 (phis_cons s23 (phis_cons s24 (phis_cons s25 (phis_cons s26 (phis_cons s27 (phis_cons s18 (phis_cons s28 (phis_cons s29 (phis_cons s30 (phis_cons s16 (phis_cons s31 phis_nil))))))))))))))))))
end Go.Proofs.Ytknapnleecepaaa
