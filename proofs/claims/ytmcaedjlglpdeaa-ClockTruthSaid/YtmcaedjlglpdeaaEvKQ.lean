/- A part of the proof: symbolic evaluation of the program's functions, proved sound against the model; no condition. -/
import Derived.Test.YtmcaedjlglpdeaaEvKO
import Derived.Test.YtmcaedjlglpdeaaEvY
namespace Go.Proofs.Ytmcaedjlglpdeaa
open Go Go.RowKit Go.Ev
set_option linter.unusedSimpArgs false
set_option linter.unusedVariables false
set_option maxRecDepth 20000
theorem ext_of_mk {P : Program} {f : FuncId} {C : List AV → List AV → Option (Prop × AV × List AV)} {D : List AV → List AV → Option (Prop × (Unit → Prop × AV × List AV))} (h : Sound P f (.mk false C))
    (hd : ∀ xs q g, D [] xs = some (q, g) → ∃ r cs', C [] xs = some (q, r, cs') ∧ g () = (True, r, []) ∧ told2 r = r ∧ frs2 r = []) : Sound P f (.ext false Unit D) := by
  intro Z w xs vs q g hz hr hD hq
  obtain ⟨r, cs', hC, hg, h1, h2⟩ := hd xs q g hD
  refine (h Z w xs vs q r cs' hz hr hC hq).mono ?_
  rintro e w' ⟨v, Z', he, hF, hG, hR⟩
  refine ⟨(), v, Z', th0, by rw [hg]; trivial, he, hF, hG, by rw [hg]; show Rep Z' w' th0 (told2 r) v; rw [h1]; exact hR, ?_⟩
  rw [hg]
  show FrOK Z' w w' th0 (frs2 r)
  rw [h2]
  exact ⟨fun j b h => (by cases h), fun j b h => (by cases h), fun j b j' b' h => (by cases h)⟩
end Go.Proofs.Ytmcaedjlglpdeaa
