/-
  No cell of these rows narrows 'for every input' (looked for: loops, veiled, ifaces, maps, wideKeys, modest, calm, conditions, laid).
  DERIVED. THE GIVEN ROWS OF THIS SEAT. 6 by the template 'for every input the law returns true; each argument reads behind the call as it read before'; 0 by the template 'total and deterministic' (their statements: YtofldhooanikcaaTotals.lean).
  GIVEN WITH THE SEED: the statements are not yours to turn. If you find one false, say at which input.
  Laid BY PROGRAM, IN A SANDBOX (cutbox-rows.mjs): the forced cells as the released guide's own fill.sh prints them over the translation 5e7c8fd9d02adefd… (all of the seat's roots in one cut). By AI agents, Wed Nov 11 2026. No macro, syntax, notation, axiom, sorry.
-/
import Derived.Test.YtofldhooanikcaaChecked
import GoSem.Claim
import GoSem.ClaimJoined
import GoSem.ClaimMapViews
import Derived.JoinedTies
import Derived.KernelRfl
namespace Go.Proofs.Ytofldhooanikcaa
/- THE CELL 'sum', in the pinned program and in every row, IS THE sha256 OF THE DUMP (.gsa) THAT YtofldhooanikcaaProg.lean LOADS. Nothing in Lean hashes anything: it is a label: what it is worth is what the hold of that sum in a sandbox is worth. -/
noncomputable def Try.pinned : Pinned := { name := "ytofldhooanikcaa", sum := "5e7c8fd9d02adefda4aa7999175eb5c112e3d5514470e8aabe52fc47700ffe2b", checked := Try.checked }
namespace Rows
def none {H : Type} : Left H := { results := [], args := [] }

/-- 'baseboardlaw41.FanAnswers': WHATEVER THE INPUT: true; the input reads as it did. -/
def fanAnswersSpec : ChangeSpec := { name := "fanAnswers", fn := fun _ => fun
  | [d1, d2, d3, d4, d5, d6] => { results := [.lit (.bool true)], args := [d1, d2, d3, d4, d5, d6] }
  | _ => none }
def fanAnswersRow : OpenClaim := { program := "ytofldhooanikcaa", sum := "5e7c8fd9d02adefda4aa7999175eb5c112e3d5514470e8aabe52fc47700ffe2b", func := "baseboard/baseboardlaw41.FanAnswers", spec := "fanAnswers", apart := false }
def FanAnswersSaid : Prop := fanAnswersRow.holds Try.pinned (OpenSpec.ofChange fanAnswersSpec)

/-- ITS FALSE NEIGHBOUR: 'it returns false'. Refute it at one input. -/
def fanAnswersWrong : ChangeSpec := { name := "fanAnswers", fn := fun _ => fun
  | [d1, d2, d3, d4, d5, d6] => { results := [.lit (.bool false)], args := [d1, d2, d3, d4, d5, d6] }
  | _ => none }
def FanAnswersWrongFalsely : Prop := fanAnswersRow.holds Try.pinned (OpenSpec.ofChange fanAnswersWrong)

/-- 'baseboardlaw41.FanBounds': WHATEVER THE INPUT: true; the input reads as it did. -/
def fanBoundsSpec : ChangeSpec := { name := "fanBounds", fn := fun _ => fun
  | [d] => { results := [.lit (.bool true)], args := [d] }
  | _ => none }
def fanBoundsRow : OpenClaim := { program := "ytofldhooanikcaa", sum := "5e7c8fd9d02adefda4aa7999175eb5c112e3d5514470e8aabe52fc47700ffe2b", func := "baseboard/baseboardlaw41.FanBounds", spec := "fanBounds", apart := false }
def FanBoundsSaid : Prop := fanBoundsRow.holds Try.pinned (OpenSpec.ofChange fanBoundsSpec)

/-- ITS FALSE NEIGHBOUR: 'it returns false'. Refute it at one input. -/
def fanBoundsWrong : ChangeSpec := { name := "fanBounds", fn := fun _ => fun
  | [d] => { results := [.lit (.bool false)], args := [d] }
  | _ => none }
def FanBoundsWrongFalsely : Prop := fanBoundsRow.holds Try.pinned (OpenSpec.ofChange fanBoundsWrong)

/-- 'baseboardlaw41.FanRises': WHATEVER THE INPUT: true; the input reads as it did. -/
def fanRisesSpec : ChangeSpec := { name := "fanRises", fn := fun _ => fun
  | [d1, d2, d3] => { results := [.lit (.bool true)], args := [d1, d2, d3] }
  | _ => none }
def fanRisesRow : OpenClaim := { program := "ytofldhooanikcaa", sum := "5e7c8fd9d02adefda4aa7999175eb5c112e3d5514470e8aabe52fc47700ffe2b", func := "baseboard/baseboardlaw41.FanRises", spec := "fanRises", apart := false }
def FanRisesSaid : Prop := fanRisesRow.holds Try.pinned (OpenSpec.ofChange fanRisesSpec)

/-- ITS FALSE NEIGHBOUR: 'it returns false'. Refute it at one input. -/
def fanRisesWrong : ChangeSpec := { name := "fanRises", fn := fun _ => fun
  | [d1, d2, d3] => { results := [.lit (.bool false)], args := [d1, d2, d3] }
  | _ => none }
def FanRisesWrongFalsely : Prop := fanRisesRow.holds Try.pinned (OpenSpec.ofChange fanRisesWrong)

/-- 'baseboardlaw41.FanFails': WHATEVER THE INPUT: true; the input reads as it did. -/
def fanFailsSpec : ChangeSpec := { name := "fanFails", fn := fun _ => fun
  | [d1, d2] => { results := [.lit (.bool true)], args := [d1, d2] }
  | _ => none }
def fanFailsRow : OpenClaim := { program := "ytofldhooanikcaa", sum := "5e7c8fd9d02adefda4aa7999175eb5c112e3d5514470e8aabe52fc47700ffe2b", func := "baseboard/baseboardlaw41.FanFails", spec := "fanFails", apart := false }
def FanFailsSaid : Prop := fanFailsRow.holds Try.pinned (OpenSpec.ofChange fanFailsSpec)

/-- ITS FALSE NEIGHBOUR: 'it returns false'. Refute it at one input. -/
def fanFailsWrong : ChangeSpec := { name := "fanFails", fn := fun _ => fun
  | [d1, d2] => { results := [.lit (.bool false)], args := [d1, d2] }
  | _ => none }
def FanFailsWrongFalsely : Prop := fanFailsRow.holds Try.pinned (OpenSpec.ofChange fanFailsWrong)

/-- 'baseboardlaw41.FanTargets': WHATEVER THE INPUT: true; the input reads as it did. -/
def fanTargetsSpec : ChangeSpec := { name := "fanTargets", fn := fun _ => fun
  | [d1, d2] => { results := [.lit (.bool true)], args := [d1, d2] }
  | _ => none }
def fanTargetsRow : OpenClaim := { program := "ytofldhooanikcaa", sum := "5e7c8fd9d02adefda4aa7999175eb5c112e3d5514470e8aabe52fc47700ffe2b", func := "baseboard/baseboardlaw41.FanTargets", spec := "fanTargets", apart := false }
def FanTargetsSaid : Prop := fanTargetsRow.holds Try.pinned (OpenSpec.ofChange fanTargetsSpec)

/-- ITS FALSE NEIGHBOUR: 'it returns false'. Refute it at one input. -/
def fanTargetsWrong : ChangeSpec := { name := "fanTargets", fn := fun _ => fun
  | [d1, d2] => { results := [.lit (.bool false)], args := [d1, d2] }
  | _ => none }
def FanTargetsWrongFalsely : Prop := fanTargetsRow.holds Try.pinned (OpenSpec.ofChange fanTargetsWrong)

/-- 'baseboardlaw41.FanSettles': WHATEVER THE INPUT: true; the input reads as it did. -/
def fanSettlesSpec : ChangeSpec := { name := "fanSettles", fn := fun _ => fun
  | [d1, d2] => { results := [.lit (.bool true)], args := [d1, d2] }
  | _ => none }
def fanSettlesRow : OpenClaim := { program := "ytofldhooanikcaa", sum := "5e7c8fd9d02adefda4aa7999175eb5c112e3d5514470e8aabe52fc47700ffe2b", func := "baseboard/baseboardlaw41.FanSettles", spec := "fanSettles", apart := false }
def FanSettlesSaid : Prop := fanSettlesRow.holds Try.pinned (OpenSpec.ofChange fanSettlesSpec)

/-- ITS FALSE NEIGHBOUR: 'it returns false'. Refute it at one input. -/
def fanSettlesWrong : ChangeSpec := { name := "fanSettles", fn := fun _ => fun
  | [d1, d2] => { results := [.lit (.bool false)], args := [d1, d2] }
  | _ => none }
def FanSettlesWrongFalsely : Prop := fanSettlesRow.holds Try.pinned (OpenSpec.ofChange fanSettlesWrong)

/- THE SECOND FORM. 'bulk': how many values and letters a reading holds, each counted each time it is reached (what is shared counts as often as it is met; a slice's spare places count too). A statement '..UptoSaid' is the law's where the arguments, and the package variables that the reading takes, are together of bulk at most 1048576: NARROWER than '..Said'. Prove '..Said' where nothing that the law and all that it calls make is longer than what came in: it says more and counts as full. Else prove '..UptoSaid'. A law counts once. -/
mutual
def uptoBulk {H : Type} : DataW H → Nat
  | .lit (.string bytes) => bytes.length + 1
  | .lit _ => 1
  | .nil => 1
  | .ptr d => uptoBulk d + 1
  | .slice elems spare => uptoBulkAll elems + uptoBulkAll spare + 1
  | .agg parts => uptoBulkAll parts + 1
  | .iface _ d => uptoBulk d + 1
  | .map entries => uptoBulkEntries entries + 1
  | .held _ => 1
def uptoBulkAll {H : Type} : List (DataW H) → Nat
  | [] => 0
  | d :: r => uptoBulk d + uptoBulkAll r
def uptoBulkEntries {H : Type} : List (Lit × DataW H) → Nat
  | [] => 0
  | x :: r => uptoBulkEntry x + uptoBulkEntries r
def uptoBulkEntry {H : Type} : Lit × DataW H → Nat
  | (.string bytes, d) => bytes.length + uptoBulk d + 1
  | (_, d) => uptoBulk d + 1
 end
def uptoSmall : (H : Type) → List (DataW H) → Bool := fun _ ds => decide (uptoBulkAll ds ≤ 1048576)
def OpenSpec.upto (s : _root_.Go.ChangeSpec) : _root_.Go.OpenSpec := { _root_.Go.OpenSpec.ofChange s with cond := some uptoSmall }

/-- 'baseboardlaw41.FanAnswers', WHERE WHAT IT READS IS OF BULK AT MOST 1048576: true; the input reads as it did. -/
def fanAnswersUptoRow : OpenClaim := { program := "ytofldhooanikcaa", sum := "5e7c8fd9d02adefda4aa7999175eb5c112e3d5514470e8aabe52fc47700ffe2b", func := "baseboard/baseboardlaw41.FanAnswers", spec := "fanAnswers", apart := false, narrowed := true }
def FanAnswersUptoSaid : Prop := fanAnswersUptoRow.holds Try.pinned (OpenSpec.upto fanAnswersSpec)

/-- 'baseboardlaw41.FanBounds', WHERE WHAT IT READS IS OF BULK AT MOST 1048576: true; the input reads as it did. -/
def fanBoundsUptoRow : OpenClaim := { program := "ytofldhooanikcaa", sum := "5e7c8fd9d02adefda4aa7999175eb5c112e3d5514470e8aabe52fc47700ffe2b", func := "baseboard/baseboardlaw41.FanBounds", spec := "fanBounds", apart := false, narrowed := true }
def FanBoundsUptoSaid : Prop := fanBoundsUptoRow.holds Try.pinned (OpenSpec.upto fanBoundsSpec)

/-- 'baseboardlaw41.FanRises', WHERE WHAT IT READS IS OF BULK AT MOST 1048576: true; the input reads as it did. -/
def fanRisesUptoRow : OpenClaim := { program := "ytofldhooanikcaa", sum := "5e7c8fd9d02adefda4aa7999175eb5c112e3d5514470e8aabe52fc47700ffe2b", func := "baseboard/baseboardlaw41.FanRises", spec := "fanRises", apart := false, narrowed := true }
def FanRisesUptoSaid : Prop := fanRisesUptoRow.holds Try.pinned (OpenSpec.upto fanRisesSpec)

/-- 'baseboardlaw41.FanFails', WHERE WHAT IT READS IS OF BULK AT MOST 1048576: true; the input reads as it did. -/
def fanFailsUptoRow : OpenClaim := { program := "ytofldhooanikcaa", sum := "5e7c8fd9d02adefda4aa7999175eb5c112e3d5514470e8aabe52fc47700ffe2b", func := "baseboard/baseboardlaw41.FanFails", spec := "fanFails", apart := false, narrowed := true }
def FanFailsUptoSaid : Prop := fanFailsUptoRow.holds Try.pinned (OpenSpec.upto fanFailsSpec)

/-- 'baseboardlaw41.FanTargets', WHERE WHAT IT READS IS OF BULK AT MOST 1048576: true; the input reads as it did. -/
def fanTargetsUptoRow : OpenClaim := { program := "ytofldhooanikcaa", sum := "5e7c8fd9d02adefda4aa7999175eb5c112e3d5514470e8aabe52fc47700ffe2b", func := "baseboard/baseboardlaw41.FanTargets", spec := "fanTargets", apart := false, narrowed := true }
def FanTargetsUptoSaid : Prop := fanTargetsUptoRow.holds Try.pinned (OpenSpec.upto fanTargetsSpec)

/-- 'baseboardlaw41.FanSettles', WHERE WHAT IT READS IS OF BULK AT MOST 1048576: true; the input reads as it did. -/
def fanSettlesUptoRow : OpenClaim := { program := "ytofldhooanikcaa", sum := "5e7c8fd9d02adefda4aa7999175eb5c112e3d5514470e8aabe52fc47700ffe2b", func := "baseboard/baseboardlaw41.FanSettles", spec := "fanSettles", apart := false, narrowed := true }
def FanSettlesUptoSaid : Prop := fanSettlesUptoRow.holds Try.pinned (OpenSpec.upto fanSettlesSpec)

end Rows
end Go.Proofs.Ytofldhooanikcaa
