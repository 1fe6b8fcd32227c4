/- A part of the proof: symbolic evaluation of the program's functions, proved sound against the model; no condition. -/
import Derived.Test.YtklbnccpeeehkaaEvHM
import Derived.Test.YtklbnccpeeehkaaEvHW
namespace Go.Proofs.Ytklbnccpeeehkaa
open Go Go.RowKit Go.Ev
set_option linter.unusedSimpArgs false
set_option linter.unusedVariables false
set_option maxRecDepth 20000
theorem hM : ∀ f C, Phis [(10, CAw), (16, CMd), (23, CSb), (24, CEn), (26, CVl), (30, CDc), (32, CSp)] f = some C → Sound Try.prog f C := (phis_cons s10 (phis_cons s16 (phis_cons s23 (phis_cons s24 (phis_cons s26 (phis_cons s30 (phis_cons s32 phis_nil)))))))
end Go.Proofs.Ytklbnccpeeehkaa
