/- A part of the proof: symbolic evaluation of the program's functions, proved sound against the model; no condition. -/
import Derived.Test.YtknapnleecepaaaEvJS
import Derived.Test.YtknapnleecepaaaEvFI
namespace Go.Proofs.Ytknapnleecepaaa
open Go Go.RowKit Go.Ev
set_option linter.unusedSimpArgs false
set_option linter.unusedVariables false
set_option maxRecDepth 20000
theorem hT6 : ∀ f C, Phis [(8, DAw), (14, DCo), (32, DNw), (20, DNe), (33, DLf), (17, DBy), (21, DWr), (29, DBr), (23, DPo), (18, DRe), (16, DGr)] f = some C → Sound Try.prog f C := (phis_cons s8 (phis_cons s14 (phis_cons s32 (phis_cons s20 (phis_cons s33 (phis_cons s17 (phis_cons s21 (phis_cons s29 (phis_cons s23 (phis_cons s18 (phis_cons s16 phis_nil)))))))))))
end Go.Proofs.Ytknapnleecepaaa
