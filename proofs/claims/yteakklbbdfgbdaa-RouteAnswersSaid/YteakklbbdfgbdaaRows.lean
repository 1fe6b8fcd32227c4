/-
  No cell of these rows narrows 'for every input' (looked for: loops, veiled, ifaces, maps, wideKeys, modest, calm, conditions, laid).
  DERIVED. THE GIVEN ROWS OF THIS SEAT. 6 by the template 'for every input the law returns true; each argument reads behind the call as it read before'; 0 by the template 'total and deterministic' (their statements: YteakklbbdfgbdaaTotals.lean).
  GIVEN WITH THE SEED: the statements are not yours to turn. If you find one false, say at which input.
  Laid BY PROGRAM, IN A SANDBOX (cutbox-rows.mjs): the forced cells as the released guide's own fill.sh prints them over the translation 4d828403bedcab51… (all of the seat's roots in one cut). By AI agents, Wed Nov 11 2026. No macro, syntax, notation, axiom, sorry.
-/
import Derived.Test.YteakklbbdfgbdaaChecked
import GoSem.Claim
import GoSem.ClaimJoined
import GoSem.ClaimMapViews
import Derived.JoinedTies
import Derived.KernelRfl
namespace Go.Proofs.Yteakklbbdfgbdaa
/- THE CELL 'sum', in the pinned program and in every row, IS THE sha256 OF THE DUMP (.gsa) THAT YteakklbbdfgbdaaProg.lean LOADS. Nothing in Lean hashes anything: it is a label: what it is worth is what the hold of that sum in a sandbox is worth. -/
noncomputable def Try.pinned : Pinned := { name := "yteakklbbdfgbdaa", sum := "4d828403bedcab51ad9b9e64054bbb6b26f3548c554878f9e6c5ccb01302ab5c", checked := Try.checked }
namespace Rows
def none {H : Type} : Left H := { results := [], args := [] }

/-- 'baseboardlaw26.RouteAnswers': WHATEVER THE INPUT: true; the input reads as it did. -/
def routeAnswersSpec : ChangeSpec := { name := "routeAnswers", fn := fun _ => fun
  | [d1, d2, d3, d4, d5] => { results := [.lit (.bool true)], args := [d1, d2, d3, d4, d5] }
  | _ => none }
def routeAnswersRow : OpenClaim := { program := "yteakklbbdfgbdaa", sum := "4d828403bedcab51ad9b9e64054bbb6b26f3548c554878f9e6c5ccb01302ab5c", func := "baseboard/baseboardlaw26.RouteAnswers", spec := "routeAnswers", unfollowed := true, recurses := true, plainKeys := false, apart := false }
def RouteAnswersSaid : Prop := routeAnswersRow.holds Try.pinned (OpenSpec.ofChange routeAnswersSpec)

/-- ITS FALSE NEIGHBOUR: 'it returns false'. Refute it at one input. -/
def routeAnswersWrong : ChangeSpec := { name := "routeAnswers", fn := fun _ => fun
  | [d1, d2, d3, d4, d5] => { results := [.lit (.bool false)], args := [d1, d2, d3, d4, d5] }
  | _ => none }
def RouteAnswersWrongFalsely : Prop := routeAnswersRow.holds Try.pinned (OpenSpec.ofChange routeAnswersWrong)

/-- 'baseboardlaw26.RoutePaths': WHATEVER THE INPUT: true; the input reads as it did. -/
def routePathsSpec : ChangeSpec := { name := "routePaths", fn := fun _ => fun
  | [d] => { results := [.lit (.bool true)], args := [d] }
  | _ => none }
def routePathsRow : OpenClaim := { program := "yteakklbbdfgbdaa", sum := "4d828403bedcab51ad9b9e64054bbb6b26f3548c554878f9e6c5ccb01302ab5c", func := "baseboard/baseboardlaw26.RoutePaths", spec := "routePaths", unfollowed := true, recurses := true, plainKeys := false, apart := false }
def RoutePathsSaid : Prop := routePathsRow.holds Try.pinned (OpenSpec.ofChange routePathsSpec)

/-- ITS FALSE NEIGHBOUR: 'it returns false'. Refute it at one input. -/
def routePathsWrong : ChangeSpec := { name := "routePaths", fn := fun _ => fun
  | [d] => { results := [.lit (.bool false)], args := [d] }
  | _ => none }
def RoutePathsWrongFalsely : Prop := routePathsRow.holds Try.pinned (OpenSpec.ofChange routePathsWrong)

/-- 'baseboardlaw26.RouteMetric': WHATEVER THE INPUT: true; the input reads as it did. -/
def routeMetricSpec : ChangeSpec := { name := "routeMetric", fn := fun _ => fun
  | [d] => { results := [.lit (.bool true)], args := [d] }
  | _ => none }
def routeMetricRow : OpenClaim := { program := "yteakklbbdfgbdaa", sum := "4d828403bedcab51ad9b9e64054bbb6b26f3548c554878f9e6c5ccb01302ab5c", func := "baseboard/baseboardlaw26.RouteMetric", spec := "routeMetric", unfollowed := true, recurses := true, plainKeys := false, apart := false }
def RouteMetricSaid : Prop := routeMetricRow.holds Try.pinned (OpenSpec.ofChange routeMetricSpec)

/-- ITS FALSE NEIGHBOUR: 'it returns false'. Refute it at one input. -/
def routeMetricWrong : ChangeSpec := { name := "routeMetric", fn := fun _ => fun
  | [d] => { results := [.lit (.bool false)], args := [d] }
  | _ => none }
def RouteMetricWrongFalsely : Prop := routeMetricRow.holds Try.pinned (OpenSpec.ofChange routeMetricWrong)

/-- 'baseboardlaw26.RouteGrows': WHATEVER THE INPUT: true; the input reads as it did. -/
def routeGrowsSpec : ChangeSpec := { name := "routeGrows", fn := fun _ => fun
  | [d1, d2, d3] => { results := [.lit (.bool true)], args := [d1, d2, d3] }
  | _ => none }
def routeGrowsRow : OpenClaim := { program := "yteakklbbdfgbdaa", sum := "4d828403bedcab51ad9b9e64054bbb6b26f3548c554878f9e6c5ccb01302ab5c", func := "baseboard/baseboardlaw26.RouteGrows", spec := "routeGrows", unfollowed := true, recurses := true, plainKeys := false, apart := false }
def RouteGrowsSaid : Prop := routeGrowsRow.holds Try.pinned (OpenSpec.ofChange routeGrowsSpec)

/-- ITS FALSE NEIGHBOUR: 'it returns false'. Refute it at one input. -/
def routeGrowsWrong : ChangeSpec := { name := "routeGrows", fn := fun _ => fun
  | [d1, d2, d3] => { results := [.lit (.bool false)], args := [d1, d2, d3] }
  | _ => none }
def RouteGrowsWrongFalsely : Prop := routeGrowsRow.holds Try.pinned (OpenSpec.ofChange routeGrowsWrong)

/-- 'baseboardlaw26.RouteForwards': WHATEVER THE INPUT: true; the input reads as it did. -/
def routeForwardsSpec : ChangeSpec := { name := "routeForwards", fn := fun _ => fun
  | [d] => { results := [.lit (.bool true)], args := [d] }
  | _ => none }
def routeForwardsRow : OpenClaim := { program := "yteakklbbdfgbdaa", sum := "4d828403bedcab51ad9b9e64054bbb6b26f3548c554878f9e6c5ccb01302ab5c", func := "baseboard/baseboardlaw26.RouteForwards", spec := "routeForwards", unfollowed := true, recurses := true, plainKeys := false, apart := false }
def RouteForwardsSaid : Prop := routeForwardsRow.holds Try.pinned (OpenSpec.ofChange routeForwardsSpec)

/-- ITS FALSE NEIGHBOUR: 'it returns false'. Refute it at one input. -/
def routeForwardsWrong : ChangeSpec := { name := "routeForwards", fn := fun _ => fun
  | [d] => { results := [.lit (.bool false)], args := [d] }
  | _ => none }
def RouteForwardsWrongFalsely : Prop := routeForwardsRow.holds Try.pinned (OpenSpec.ofChange routeForwardsWrong)

/-- 'baseboardlaw26.RouteLines': WHATEVER THE INPUT: true; the input reads as it did. -/
def routeLinesSpec : ChangeSpec := { name := "routeLines", fn := fun _ => fun
  | [d1, d2, d3] => { results := [.lit (.bool true)], args := [d1, d2, d3] }
  | _ => none }
def routeLinesRow : OpenClaim := { program := "yteakklbbdfgbdaa", sum := "4d828403bedcab51ad9b9e64054bbb6b26f3548c554878f9e6c5ccb01302ab5c", func := "baseboard/baseboardlaw26.RouteLines", spec := "routeLines", unfollowed := true, recurses := true, plainKeys := false, apart := false }
def RouteLinesSaid : Prop := routeLinesRow.holds Try.pinned (OpenSpec.ofChange routeLinesSpec)

/-- ITS FALSE NEIGHBOUR: 'it returns false'. Refute it at one input. -/
def routeLinesWrong : ChangeSpec := { name := "routeLines", fn := fun _ => fun
  | [d1, d2, d3] => { results := [.lit (.bool false)], args := [d1, d2, d3] }
  | _ => none }
def RouteLinesWrongFalsely : Prop := routeLinesRow.holds Try.pinned (OpenSpec.ofChange routeLinesWrong)

/- THE SECOND FORM. 'bulk': how many values and letters a reading holds, each counted each time it is reached (what is shared counts as often as it is met; a slice's spare places count too). A statement '..UptoSaid' is the law's where the arguments, and the package variables that the reading takes, are together of bulk at most 1048576: NARROWER than '..Said'. Prove '..Said' where nothing that the law and all that it calls make is longer than what came in: it says more and counts as full. Else prove '..UptoSaid'. A law counts once. -/
mutual
def uptoBulk {H : Type} : DataW H → Nat
  | .lit (.string bytes) => bytes.length + 1
  | .lit _ => 1
  | .nil => 1
  | .ptr d => uptoBulk d + 1
  | .slice elems spare => uptoBulkAll elems + uptoBulkAll spare + 1
  | .agg parts => uptoBulkAll parts + 1
  | .iface _ d => uptoBulk d + 1
  | .map entries => uptoBulkEntries entries + 1
  | .held _ => 1
def uptoBulkAll {H : Type} : List (DataW H) → Nat
  | [] => 0
  | d :: r => uptoBulk d + uptoBulkAll r
def uptoBulkEntries {H : Type} : List (Lit × DataW H) → Nat
  | [] => 0
  | x :: r => uptoBulkEntry x + uptoBulkEntries r
def uptoBulkEntry {H : Type} : Lit × DataW H → Nat
  | (.string bytes, d) => bytes.length + uptoBulk d + 1
  | (_, d) => uptoBulk d + 1
 end
def uptoSmall : (H : Type) → List (DataW H) → Bool := fun _ ds => decide (uptoBulkAll ds ≤ 1048576)
def OpenSpec.upto (s : _root_.Go.ChangeSpec) : _root_.Go.OpenSpec := { _root_.Go.OpenSpec.ofChange s with cond := some uptoSmall }

/-- 'baseboardlaw26.RouteAnswers', WHERE WHAT IT READS IS OF BULK AT MOST 1048576: true; the input reads as it did. -/
def routeAnswersUptoRow : OpenClaim := { program := "yteakklbbdfgbdaa", sum := "4d828403bedcab51ad9b9e64054bbb6b26f3548c554878f9e6c5ccb01302ab5c", func := "baseboard/baseboardlaw26.RouteAnswers", spec := "routeAnswers", unfollowed := true, recurses := true, plainKeys := false, apart := false, narrowed := true }
def RouteAnswersUptoSaid : Prop := routeAnswersUptoRow.holds Try.pinned (OpenSpec.upto routeAnswersSpec)

/-- 'baseboardlaw26.RoutePaths', WHERE WHAT IT READS IS OF BULK AT MOST 1048576: true; the input reads as it did. -/
def routePathsUptoRow : OpenClaim := { program := "yteakklbbdfgbdaa", sum := "4d828403bedcab51ad9b9e64054bbb6b26f3548c554878f9e6c5ccb01302ab5c", func := "baseboard/baseboardlaw26.RoutePaths", spec := "routePaths", unfollowed := true, recurses := true, plainKeys := false, apart := false, narrowed := true }
def RoutePathsUptoSaid : Prop := routePathsUptoRow.holds Try.pinned (OpenSpec.upto routePathsSpec)

/-- 'baseboardlaw26.RouteMetric', WHERE WHAT IT READS IS OF BULK AT MOST 1048576: true; the input reads as it did. -/
def routeMetricUptoRow : OpenClaim := { program := "yteakklbbdfgbdaa", sum := "4d828403bedcab51ad9b9e64054bbb6b26f3548c554878f9e6c5ccb01302ab5c", func := "baseboard/baseboardlaw26.RouteMetric", spec := "routeMetric", unfollowed := true, recurses := true, plainKeys := false, apart := false, narrowed := true }
def RouteMetricUptoSaid : Prop := routeMetricUptoRow.holds Try.pinned (OpenSpec.upto routeMetricSpec)

/-- 'baseboardlaw26.RouteGrows', WHERE WHAT IT READS IS OF BULK AT MOST 1048576: true; the input reads as it did. -/
def routeGrowsUptoRow : OpenClaim := { program := "yteakklbbdfgbdaa", sum := "4d828403bedcab51ad9b9e64054bbb6b26f3548c554878f9e6c5ccb01302ab5c", func := "baseboard/baseboardlaw26.RouteGrows", spec := "routeGrows", unfollowed := true, recurses := true, plainKeys := false, apart := false, narrowed := true }
def RouteGrowsUptoSaid : Prop := routeGrowsUptoRow.holds Try.pinned (OpenSpec.upto routeGrowsSpec)

/-- 'baseboardlaw26.RouteForwards', WHERE WHAT IT READS IS OF BULK AT MOST 1048576: true; the input reads as it did. -/
def routeForwardsUptoRow : OpenClaim := { program := "yteakklbbdfgbdaa", sum := "4d828403bedcab51ad9b9e64054bbb6b26f3548c554878f9e6c5ccb01302ab5c", func := "baseboard/baseboardlaw26.RouteForwards", spec := "routeForwards", unfollowed := true, recurses := true, plainKeys := false, apart := false, narrowed := true }
def RouteForwardsUptoSaid : Prop := routeForwardsUptoRow.holds Try.pinned (OpenSpec.upto routeForwardsSpec)

/-- 'baseboardlaw26.RouteLines', WHERE WHAT IT READS IS OF BULK AT MOST 1048576: true; the input reads as it did. -/
def routeLinesUptoRow : OpenClaim := { program := "yteakklbbdfgbdaa", sum := "4d828403bedcab51ad9b9e64054bbb6b26f3548c554878f9e6c5ccb01302ab5c", func := "baseboard/baseboardlaw26.RouteLines", spec := "routeLines", unfollowed := true, recurses := true, plainKeys := false, apart := false, narrowed := true }
def RouteLinesUptoSaid : Prop := routeLinesUptoRow.holds Try.pinned (OpenSpec.upto routeLinesSpec)

end Rows
end Go.Proofs.Yteakklbbdfgbdaa
