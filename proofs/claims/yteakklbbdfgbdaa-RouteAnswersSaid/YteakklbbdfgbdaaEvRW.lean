/- A part of the proof: symbolic evaluation of the program's functions, proved sound against the model; no condition. -/
import Derived.Test.YteakklbbdfgbdaaEvRQ
import Derived.Test.YteakklbbdfgbdaaEvRS
namespace Go.Proofs.Yteakklbbdfgbdaa
open Go Go.RowKit Go.Ev
set_option linter.unusedSimpArgs false
set_option linter.unusedVariables false
set_option maxRecDepth 20000
theorem hM : ∀ f C, Phis [(18, CNx), (20, CPt)] f = some C → Sound Try.prog f C := (phis_cons s18 (phis_cons s20 phis_nil))
theorem s9 : Sound Try.prog 9 CAw := sound_pureI (by kernel_rfl) hM Try.func9 rfl rc9_ok rv9_ok (by
  intro xs q r cs' h hq
  split at h
  · cases h
    exact ⟨noI, rfl, Nat.le_of_ble_eq_true rfl, walk9 rfl rfl⟩
  · cases h)
theorem hN : ∀ f C, Phis [(13, DNe)] f = some C → Sound Try.prog f C := (phis_cons s13 phis_nil)
theorem s11 : Sound Try.prog 11 DNw := soundX_stateI (by kernel_rfl) hN Try.func11 rfl rc11_ok rv11_ok (by
  intro cs xs q g h hq
  split at h
  · rename_i zz es a
    cases h
    obtain ⟨⟨⟨rfl, g1⟩, gl⟩, ga, go⟩ := hq
    obtain ⟨L, rfl⟩ : ∃ L, es = u8s L := ⟨_, g1⟩
    simp only [decU_u8s, u8s_len] at *
    exact ⟨I11 L, fun _ _ => rfl, Nat.le_of_ble_eq_true rfl, walk11 rfl L a gl ga go⟩
  · cases h)
theorem hO : ∀ f C, Phis [(9, CAw), (10, DCo), (11, DNw), (16, CVl), (13, DNe), (14, CDi)] f = some C → Sound Try.prog f C := (phis_cons s9 (phis_cons s10 (phis_cons s11 (phis_cons s16 (phis_cons s13 (phis_cons s14 phis_nil))))))
theorem hQ : ∀ f C, Phis [(9, CAw), (14, CDi)] f = some C → Sound Try.prog f C := (phis_cons s9 (phis_cons s14 phis_nil))
end Go.Proofs.Yteakklbbdfgbdaa
