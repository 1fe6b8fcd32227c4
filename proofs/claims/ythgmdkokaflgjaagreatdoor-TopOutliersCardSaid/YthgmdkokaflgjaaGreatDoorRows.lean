/-
  NARROWER THAN 'FOR EVERY INPUT', by the rows' own cells (each row's printed sentence says how): TopOutliers: laid · TopGaps: laid · TopTimed: laid.
  DERIVED. THE GIVEN ROWS OF THIS SEAT. 3 by the template 'for every input the law returns true; each argument reads behind the call as it read before'; 0 by the template 'total and deterministic' (their statements: YthgmdkokaflgjaaGreatDoorTotals.lean).
  GIVEN WITH THE SEED: the statements are not yours to turn. If you find one false, say at which input.
  Laid BY PROGRAM, IN A SANDBOX (cutbox-rows.mjs): the forced cells as the released guide's own fill.sh prints them over the translation 0c2d9e47efebe5dd… (all of the seat's roots in one cut). By AI agents, Wed Nov 11 2026. No macro, syntax, notation, axiom, sorry.
-/
import Derived.Test.YthgmdkokaflgjaaGreatDoorChecked
import GoSem.Claim
import GoSem.ClaimJoined
import GoSem.ClaimMapViews
import Derived.JoinedTies
import Derived.KernelRfl
namespace Go.Proofs.YthgmdkokaflgjaaGreatDoor
/- THE CELL 'sum', in the pinned program and in every row, IS THE sha256 OF THE DUMP (.gsa) THAT YthgmdkokaflgjaaGreatDoorProg.lean LOADS. Nothing in Lean hashes anything: it is a label: what it is worth is what the hold of that sum in a sandbox is worth. -/
noncomputable def Tryz.pinned : Pinned := { name := "ythgmdkokaflgjaagreatdoor", sum := "0c2d9e47efebe5dd9e8a85d6c0d03119f1481523ec990c1f0678b432be6de981", checked := Tryz.checked }
namespace Rows
def none {H : Type} : Left H := { results := [], args := [] }

/- WHAT THE LISTED PACKAGE-LEVEL VARIABLES READ AS WHEN THE CALL BEGINS. Each datum BY PROGRAM (the guide's laid-datum.mjs) off the statement by which the dump's own 'gosem.cut.vars' lays the variable. In a bare row this is a premise. The card (YthgmdkokaflgjaaGreatDoorCards.lean) ties it to the program's text. -/
def laid_baseboard_event_offsets {H : Type} : DataW H := .agg [.lit (.int .u8 0), .lit (.int .u8 2), .lit (.int .u8 4), .lit (.int .u8 7), .lit (.int .u8 9), .lit (.int .u8 11)]

/-- 'baseboardtop.TopOutliers': WHATEVER THE INPUT: true; the input reads as it did. -/
def topOutliersSpec : ChangeSpec := { name := "topOutliers", fn := fun _ => fun
  | [d1, d2, d3] => { results := [.lit (.bool true)], args := [d1, d2, d3] }
  | _ => none }
def topOutliersRow : OpenClaim := { program := "ythgmdkokaflgjaagreatdoor", sum := "0c2d9e47efebe5dd9e8a85d6c0d03119f1481523ec990c1f0678b432be6de981", func := "baseboard/baseboardtop.TopOutliers", spec := "topOutliers", unfollowed := true, recurses := true, named := ["baseboard/event.offsets"], plainKeys := false, apart := false, laid := [("baseboard/event.offsets", laid_baseboard_event_offsets)] }
def TopOutliersSaid : Prop := topOutliersRow.holds Tryz.pinned (OpenSpec.ofChange topOutliersSpec)

/-- ITS FALSE NEIGHBOUR: 'it returns false'. Refute it at one input. -/
def topOutliersWrong : ChangeSpec := { name := "topOutliers", fn := fun _ => fun
  | [d1, d2, d3] => { results := [.lit (.bool false)], args := [d1, d2, d3] }
  | _ => none }
def TopOutliersWrongFalsely : Prop := topOutliersRow.holds Tryz.pinned (OpenSpec.ofChange topOutliersWrong)

/-- 'baseboardtop.TopGaps': WHATEVER THE INPUT: true; the input reads as it did. -/
def topGapsSpec : ChangeSpec := { name := "topGaps", fn := fun _ => fun
  | [d1, d2, d3] => { results := [.lit (.bool true)], args := [d1, d2, d3] }
  | _ => none }
def topGapsRow : OpenClaim := { program := "ythgmdkokaflgjaagreatdoor", sum := "0c2d9e47efebe5dd9e8a85d6c0d03119f1481523ec990c1f0678b432be6de981", func := "baseboard/baseboardtop.TopGaps", spec := "topGaps", unfollowed := true, recurses := true, named := ["baseboard/event.offsets"], plainKeys := false, apart := false, laid := [("baseboard/event.offsets", laid_baseboard_event_offsets)] }
def TopGapsSaid : Prop := topGapsRow.holds Tryz.pinned (OpenSpec.ofChange topGapsSpec)

/-- ITS FALSE NEIGHBOUR: 'it returns false'. Refute it at one input. -/
def topGapsWrong : ChangeSpec := { name := "topGaps", fn := fun _ => fun
  | [d1, d2, d3] => { results := [.lit (.bool false)], args := [d1, d2, d3] }
  | _ => none }
def TopGapsWrongFalsely : Prop := topGapsRow.holds Tryz.pinned (OpenSpec.ofChange topGapsWrong)

/-- 'baseboardtop.TopTimed': WHATEVER THE INPUT: true; the input reads as it did. -/
def topTimedSpec : ChangeSpec := { name := "topTimed", fn := fun _ => fun
  | [d] => { results := [.lit (.bool true)], args := [d] }
  | _ => none }
def topTimedRow : OpenClaim := { program := "ythgmdkokaflgjaagreatdoor", sum := "0c2d9e47efebe5dd9e8a85d6c0d03119f1481523ec990c1f0678b432be6de981", func := "baseboard/baseboardtop.TopTimed", spec := "topTimed", unfollowed := true, recurses := true, named := ["baseboard/event.offsets"], plainKeys := false, apart := false, laid := [("baseboard/event.offsets", laid_baseboard_event_offsets)] }
def TopTimedSaid : Prop := topTimedRow.holds Tryz.pinned (OpenSpec.ofChange topTimedSpec)

/-- ITS FALSE NEIGHBOUR: 'it returns false'. Refute it at one input. -/
def topTimedWrong : ChangeSpec := { name := "topTimed", fn := fun _ => fun
  | [d] => { results := [.lit (.bool false)], args := [d] }
  | _ => none }
def TopTimedWrongFalsely : Prop := topTimedRow.holds Tryz.pinned (OpenSpec.ofChange topTimedWrong)

/- THE SECOND FORM. 'bulk': how many values and letters a reading holds, each counted each time it is reached (what is shared counts as often as it is met; a slice's spare places count too). A statement '..UptoSaid' is the law's where the arguments, and the package variables that the reading takes, are together of bulk at most 1048576: NARROWER than '..Said'. Prove '..Said' where nothing that the law and all that it calls make is longer than what came in: it says more and counts as full. Else prove '..UptoSaid'. A law counts once. -/
mutual
def uptoBulk {H : Type} : DataW H → Nat
  | .lit (.string bytes) => bytes.length + 1
  | .lit _ => 1
  | .nil => 1
  | .ptr d => uptoBulk d + 1
  | .slice elems spare => uptoBulkAll elems + uptoBulkAll spare + 1
  | .agg parts => uptoBulkAll parts + 1
  | .iface _ d => uptoBulk d + 1
  | .map entries => uptoBulkEntries entries + 1
  | .held _ => 1
def uptoBulkAll {H : Type} : List (DataW H) → Nat
  | [] => 0
  | d :: r => uptoBulk d + uptoBulkAll r
def uptoBulkEntries {H : Type} : List (Lit × DataW H) → Nat
  | [] => 0
  | x :: r => uptoBulkEntry x + uptoBulkEntries r
def uptoBulkEntry {H : Type} : Lit × DataW H → Nat
  | (.string bytes, d) => bytes.length + uptoBulk d + 1
  | (_, d) => uptoBulk d + 1
 end
def uptoSmall : (H : Type) → List (DataW H) → Bool := fun _ ds => decide (uptoBulkAll ds ≤ 1048576)
def OpenSpec.upto (s : _root_.Go.ChangeSpec) : _root_.Go.OpenSpec := { _root_.Go.OpenSpec.ofChange s with cond := some uptoSmall }

/-- 'baseboardtop.TopOutliers', WHERE WHAT IT READS IS OF BULK AT MOST 1048576: true; the input reads as it did. -/
def topOutliersUptoRow : OpenClaim := { program := "ythgmdkokaflgjaagreatdoor", sum := "0c2d9e47efebe5dd9e8a85d6c0d03119f1481523ec990c1f0678b432be6de981", func := "baseboard/baseboardtop.TopOutliers", spec := "topOutliers", unfollowed := true, recurses := true, named := ["baseboard/event.offsets"], plainKeys := false, apart := false, laid := [("baseboard/event.offsets", laid_baseboard_event_offsets)], narrowed := true }
def TopOutliersUptoSaid : Prop := topOutliersUptoRow.holds Tryz.pinned (OpenSpec.upto topOutliersSpec)

/-- 'baseboardtop.TopGaps', WHERE WHAT IT READS IS OF BULK AT MOST 1048576: true; the input reads as it did. -/
def topGapsUptoRow : OpenClaim := { program := "ythgmdkokaflgjaagreatdoor", sum := "0c2d9e47efebe5dd9e8a85d6c0d03119f1481523ec990c1f0678b432be6de981", func := "baseboard/baseboardtop.TopGaps", spec := "topGaps", unfollowed := true, recurses := true, named := ["baseboard/event.offsets"], plainKeys := false, apart := false, laid := [("baseboard/event.offsets", laid_baseboard_event_offsets)], narrowed := true }
def TopGapsUptoSaid : Prop := topGapsUptoRow.holds Tryz.pinned (OpenSpec.upto topGapsSpec)

/-- 'baseboardtop.TopTimed', WHERE WHAT IT READS IS OF BULK AT MOST 1048576: true; the input reads as it did. -/
def topTimedUptoRow : OpenClaim := { program := "ythgmdkokaflgjaagreatdoor", sum := "0c2d9e47efebe5dd9e8a85d6c0d03119f1481523ec990c1f0678b432be6de981", func := "baseboard/baseboardtop.TopTimed", spec := "topTimed", unfollowed := true, recurses := true, named := ["baseboard/event.offsets"], plainKeys := false, apart := false, laid := [("baseboard/event.offsets", laid_baseboard_event_offsets)], narrowed := true }
def TopTimedUptoSaid : Prop := topTimedUptoRow.holds Tryz.pinned (OpenSpec.upto topTimedSpec)

end Rows
end Go.Proofs.YthgmdkokaflgjaaGreatDoor
