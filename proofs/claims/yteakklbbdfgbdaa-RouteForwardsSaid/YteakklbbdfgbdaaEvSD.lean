/- A part of the proof: symbolic evaluation of the program's functions, proved sound against the model; no condition. -/
import Derived.Test.YteakklbbdfgbdaaEvRW
namespace Go.Proofs.Yteakklbbdfgbdaa
open Go Go.RowKit Go.Ev
set_option linter.unusedSimpArgs false
set_option linter.unusedVariables false
set_option maxRecDepth 20000
theorem h6 : ∀ f C, Phis [(9, CAw), (10, DCo), (11, DNw), (16, CVl), (14, CDi)] f = some C → Sound Try.prog f C := (phis_cons s9 (phis_cons s10 (phis_cons s11 (phis_cons s16 (phis_cons s14 phis_nil)))))
theorem h4 : ∀ f C, Phis [(9, CAw), (10, DCo), (11, DNw), (16, CVl), (13, DNe), (20, CPt), (14, CDi), (23, CSd)] f = some C → Sound Try.prog f C := (phis_cons s9 (phis_cons s10 (phis_cons s11 (phis_cons s16 (phis_cons s13 (phis_cons s20 (phis_cons s14 (phis_cons s23 phis_nil))))))))
theorem h7 : ∀ f C, Phis [(9, CAw), (10, DCo), (11, DNw), (16, CVl), (13, DNe), (20, CPt), (18, CNx), (14, CDi), (23, CSd)] f = some C → Sound Try.prog f C := (phis_cons s9 (phis_cons s10 (phis_cons s11 (phis_cons s16 (phis_cons s13 (phis_cons s20 (phis_cons s18 (phis_cons s14 (phis_cons s23 phis_nil)))))))))
end Go.Proofs.Yteakklbbdfgbdaa
