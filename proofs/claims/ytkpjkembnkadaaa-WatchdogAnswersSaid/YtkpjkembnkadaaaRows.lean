/-
  No cell of these rows narrows 'for every input' (looked for: loops, veiled, ifaces, maps, wideKeys, modest, calm, conditions, laid).
  DERIVED. THE GIVEN ROWS OF THIS SEAT. 4 by the template 'for every input the law returns true; each argument reads behind the call as it read before'; 0 by the template 'total and deterministic' (their statements: YtkpjkembnkadaaaTotals.lean).
  GIVEN WITH THE SEED: the statements are not yours to turn. If you find one false, say at which input.
  Laid BY PROGRAM, IN A SANDBOX (cutbox-rows.mjs): the forced cells as the released guide's own fill.sh prints them over the translation f6d9fec850729bab… (all of the seat's roots in one cut). By AI agents, Wed Nov 11 2026. No macro, syntax, notation, axiom, sorry.
-/
import Derived.Test.YtkpjkembnkadaaaChecked
import GoSem.Claim
import GoSem.ClaimJoined
import GoSem.ClaimMapViews
import Derived.JoinedTies
import Derived.KernelRfl
namespace Go.Proofs.Ytkpjkembnkadaaa
/- THE CELL 'sum', in the pinned program and in every row, IS THE sha256 OF THE DUMP (.gsa) THAT YtkpjkembnkadaaaProg.lean LOADS. Nothing in Lean hashes anything: it is a label: what it is worth is what the hold of that sum in a sandbox is worth. -/
noncomputable def Try.pinned : Pinned := { name := "ytkpjkembnkadaaa", sum := "f6d9fec850729bab47f20972faa612c2188018bef7debb787dc68cca08366238", checked := Try.checked }
namespace Rows
def none {H : Type} : Left H := { results := [], args := [] }

/-- 'baseboardlaw40.WatchdogExpires': WHATEVER THE INPUT: true; the input reads as it did. -/
def watchdogExpiresSpec : ChangeSpec := { name := "watchdogExpires", fn := fun _ => fun
  | [d1, d2, d3] => { results := [.lit (.bool true)], args := [d1, d2, d3] }
  | _ => none }
def watchdogExpiresRow : OpenClaim := { program := "ytkpjkembnkadaaa", sum := "f6d9fec850729bab47f20972faa612c2188018bef7debb787dc68cca08366238", func := "baseboard/baseboardlaw40.WatchdogExpires", spec := "watchdogExpires", apart := false }
def WatchdogExpiresSaid : Prop := watchdogExpiresRow.holds Try.pinned (OpenSpec.ofChange watchdogExpiresSpec)

/-- ITS FALSE NEIGHBOUR: 'it returns false'. Refute it at one input. -/
def watchdogExpiresWrong : ChangeSpec := { name := "watchdogExpires", fn := fun _ => fun
  | [d1, d2, d3] => { results := [.lit (.bool false)], args := [d1, d2, d3] }
  | _ => none }
def WatchdogExpiresWrongFalsely : Prop := watchdogExpiresRow.holds Try.pinned (OpenSpec.ofChange watchdogExpiresWrong)

/-- 'baseboardlaw40.WatchdogSaturates': WHATEVER THE INPUT: true; the input reads as it did. -/
def watchdogSaturatesSpec : ChangeSpec := { name := "watchdogSaturates", fn := fun _ => fun
  | [d1, d2] => { results := [.lit (.bool true)], args := [d1, d2] }
  | _ => none }
def watchdogSaturatesRow : OpenClaim := { program := "ytkpjkembnkadaaa", sum := "f6d9fec850729bab47f20972faa612c2188018bef7debb787dc68cca08366238", func := "baseboard/baseboardlaw40.WatchdogSaturates", spec := "watchdogSaturates", apart := false }
def WatchdogSaturatesSaid : Prop := watchdogSaturatesRow.holds Try.pinned (OpenSpec.ofChange watchdogSaturatesSpec)

/-- ITS FALSE NEIGHBOUR: 'it returns false'. Refute it at one input. -/
def watchdogSaturatesWrong : ChangeSpec := { name := "watchdogSaturates", fn := fun _ => fun
  | [d1, d2] => { results := [.lit (.bool false)], args := [d1, d2] }
  | _ => none }
def WatchdogSaturatesWrongFalsely : Prop := watchdogSaturatesRow.holds Try.pinned (OpenSpec.ofChange watchdogSaturatesWrong)

/-- 'baseboardlaw40.WatchdogAnswers': WHATEVER THE INPUT: true; the input reads as it did. -/
def watchdogAnswersSpec : ChangeSpec := { name := "watchdogAnswers", fn := fun _ => fun
  | [d1, d2, d3, d4, d5, d6, d7, d8, d9] => { results := [.lit (.bool true)], args := [d1, d2, d3, d4, d5, d6, d7, d8, d9] }
  | _ => none }
def watchdogAnswersRow : OpenClaim := { program := "ytkpjkembnkadaaa", sum := "f6d9fec850729bab47f20972faa612c2188018bef7debb787dc68cca08366238", func := "baseboard/baseboardlaw40.WatchdogAnswers", spec := "watchdogAnswers", apart := false }
def WatchdogAnswersSaid : Prop := watchdogAnswersRow.holds Try.pinned (OpenSpec.ofChange watchdogAnswersSpec)

/-- ITS FALSE NEIGHBOUR: 'it returns false'. Refute it at one input. -/
def watchdogAnswersWrong : ChangeSpec := { name := "watchdogAnswers", fn := fun _ => fun
  | [d1, d2, d3, d4, d5, d6, d7, d8, d9] => { results := [.lit (.bool false)], args := [d1, d2, d3, d4, d5, d6, d7, d8, d9] }
  | _ => none }
def WatchdogAnswersWrongFalsely : Prop := watchdogAnswersRow.holds Try.pinned (OpenSpec.ofChange watchdogAnswersWrong)

/-- 'baseboardlaw40.WatchdogStops': WHATEVER THE INPUT: true; the input reads as it did. -/
def watchdogStopsSpec : ChangeSpec := { name := "watchdogStops", fn := fun _ => fun
  | [d1, d2, d3] => { results := [.lit (.bool true)], args := [d1, d2, d3] }
  | _ => none }
def watchdogStopsRow : OpenClaim := { program := "ytkpjkembnkadaaa", sum := "f6d9fec850729bab47f20972faa612c2188018bef7debb787dc68cca08366238", func := "baseboard/baseboardlaw40.WatchdogStops", spec := "watchdogStops", apart := false }
def WatchdogStopsSaid : Prop := watchdogStopsRow.holds Try.pinned (OpenSpec.ofChange watchdogStopsSpec)

/-- ITS FALSE NEIGHBOUR: 'it returns false'. Refute it at one input. -/
def watchdogStopsWrong : ChangeSpec := { name := "watchdogStops", fn := fun _ => fun
  | [d1, d2, d3] => { results := [.lit (.bool false)], args := [d1, d2, d3] }
  | _ => none }
def WatchdogStopsWrongFalsely : Prop := watchdogStopsRow.holds Try.pinned (OpenSpec.ofChange watchdogStopsWrong)

/- THE SECOND FORM. 'bulk': how many values and letters a reading holds, each counted each time it is reached (what is shared counts as often as it is met; a slice's spare places count too). A statement '..UptoSaid' is the law's where the arguments, and the package variables that the reading takes, are together of bulk at most 1048576: NARROWER than '..Said'. Prove '..Said' where nothing that the law and all that it calls make is longer than what came in: it says more and counts as full. Else prove '..UptoSaid'. A law counts once. -/
mutual
def uptoBulk {H : Type} : DataW H → Nat
  | .lit (.string bytes) => bytes.length + 1
  | .lit _ => 1
  | .nil => 1
  | .ptr d => uptoBulk d + 1
  | .slice elems spare => uptoBulkAll elems + uptoBulkAll spare + 1
  | .agg parts => uptoBulkAll parts + 1
  | .iface _ d => uptoBulk d + 1
  | .map entries => uptoBulkEntries entries + 1
  | .held _ => 1
def uptoBulkAll {H : Type} : List (DataW H) → Nat
  | [] => 0
  | d :: r => uptoBulk d + uptoBulkAll r
def uptoBulkEntries {H : Type} : List (Lit × DataW H) → Nat
  | [] => 0
  | x :: r => uptoBulkEntry x + uptoBulkEntries r
def uptoBulkEntry {H : Type} : Lit × DataW H → Nat
  | (.string bytes, d) => bytes.length + uptoBulk d + 1
  | (_, d) => uptoBulk d + 1
 end
def uptoSmall : (H : Type) → List (DataW H) → Bool := fun _ ds => decide (uptoBulkAll ds ≤ 1048576)
def OpenSpec.upto (s : _root_.Go.ChangeSpec) : _root_.Go.OpenSpec := { _root_.Go.OpenSpec.ofChange s with cond := some uptoSmall }

/-- 'baseboardlaw40.WatchdogExpires', WHERE WHAT IT READS IS OF BULK AT MOST 1048576: true; the input reads as it did. -/
def watchdogExpiresUptoRow : OpenClaim := { program := "ytkpjkembnkadaaa", sum := "f6d9fec850729bab47f20972faa612c2188018bef7debb787dc68cca08366238", func := "baseboard/baseboardlaw40.WatchdogExpires", spec := "watchdogExpires", apart := false, narrowed := true }
def WatchdogExpiresUptoSaid : Prop := watchdogExpiresUptoRow.holds Try.pinned (OpenSpec.upto watchdogExpiresSpec)

/-- 'baseboardlaw40.WatchdogSaturates', WHERE WHAT IT READS IS OF BULK AT MOST 1048576: true; the input reads as it did. -/
def watchdogSaturatesUptoRow : OpenClaim := { program := "ytkpjkembnkadaaa", sum := "f6d9fec850729bab47f20972faa612c2188018bef7debb787dc68cca08366238", func := "baseboard/baseboardlaw40.WatchdogSaturates", spec := "watchdogSaturates", apart := false, narrowed := true }
def WatchdogSaturatesUptoSaid : Prop := watchdogSaturatesUptoRow.holds Try.pinned (OpenSpec.upto watchdogSaturatesSpec)

/-- 'baseboardlaw40.WatchdogAnswers', WHERE WHAT IT READS IS OF BULK AT MOST 1048576: true; the input reads as it did. -/
def watchdogAnswersUptoRow : OpenClaim := { program := "ytkpjkembnkadaaa", sum := "f6d9fec850729bab47f20972faa612c2188018bef7debb787dc68cca08366238", func := "baseboard/baseboardlaw40.WatchdogAnswers", spec := "watchdogAnswers", apart := false, narrowed := true }
def WatchdogAnswersUptoSaid : Prop := watchdogAnswersUptoRow.holds Try.pinned (OpenSpec.upto watchdogAnswersSpec)

/-- 'baseboardlaw40.WatchdogStops', WHERE WHAT IT READS IS OF BULK AT MOST 1048576: true; the input reads as it did. -/
def watchdogStopsUptoRow : OpenClaim := { program := "ytkpjkembnkadaaa", sum := "f6d9fec850729bab47f20972faa612c2188018bef7debb787dc68cca08366238", func := "baseboard/baseboardlaw40.WatchdogStops", spec := "watchdogStops", apart := false, narrowed := true }
def WatchdogStopsUptoSaid : Prop := watchdogStopsUptoRow.holds Try.pinned (OpenSpec.upto watchdogStopsSpec)

end Rows
end Go.Proofs.Ytkpjkembnkadaaa
