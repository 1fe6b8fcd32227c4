/-
  No cell of these rows narrows 'for every input' (looked for: loops, veiled, ifaces, maps, wideKeys, modest, calm, conditions, laid).
  DERIVED. THE GIVEN ROWS OF THIS SEAT. 5 by the template 'for every input the law returns true; each argument reads behind the call as it read before'; 0 by the template 'total and deterministic' (their statements: YtknapnleecepaaaTotals.lean).
  GIVEN WITH THE SEED: the statements are not yours to turn. If you find one false, say at which input.
  Laid BY PROGRAM, IN A SANDBOX (cutbox-rows.mjs): the forced cells as the released guide's own fill.sh prints them over the translation 3feedef5e798287f… (all of the seat's roots in one cut). By AI agents, Wed Nov 11 2026. No macro, syntax, notation, axiom, sorry.
-/
import Derived.Test.YtknapnleecepaaaChecked
import GoSem.Claim
import GoSem.ClaimJoined
import GoSem.ClaimMapViews
import Derived.JoinedTies
import Derived.KernelRfl
namespace Go.Proofs.Ytknapnleecepaaa
/- THE CELL 'sum', in the pinned program and in every row, IS THE sha256 OF THE DUMP (.gsa) THAT YtknapnleecepaaaProg.lean LOADS. Nothing in Lean hashes anything: it is a label: what it is worth is what the hold of that sum in a sandbox is worth. -/
noncomputable def Try.pinned : Pinned := { name := "ytknapnleecepaaa", sum := "3feedef5e798287f707cd38deebdee3eb2fea096d80eac2fc35c35953365ed74", checked := Try.checked }
namespace Rows
def none {H : Type} : Left H := { results := [], args := [] }

/-- 'baseboardlaw36.ConsoleTexts': WHATEVER THE INPUT: true; the input reads as it did. -/
def consoleTextsSpec : ChangeSpec := { name := "consoleTexts", fn := fun _ => fun
  | [d1, d2, d3, d4, d5, d6, d7] => { results := [.lit (.bool true)], args := [d1, d2, d3, d4, d5, d6, d7] }
  | _ => none }
def consoleTextsRow : OpenClaim := { program := "ytknapnleecepaaa", sum := "3feedef5e798287f707cd38deebdee3eb2fea096d80eac2fc35c35953365ed74", func := "baseboard/baseboardlaw36.ConsoleTexts", spec := "consoleTexts", apart := false }
def ConsoleTextsSaid : Prop := consoleTextsRow.holds Try.pinned (OpenSpec.ofChange consoleTextsSpec)

/-- ITS FALSE NEIGHBOUR: 'it returns false'. Refute it at one input. -/
def consoleTextsWrong : ChangeSpec := { name := "consoleTexts", fn := fun _ => fun
  | [d1, d2, d3, d4, d5, d6, d7] => { results := [.lit (.bool false)], args := [d1, d2, d3, d4, d5, d6, d7] }
  | _ => none }
def ConsoleTextsWrongFalsely : Prop := consoleTextsRow.holds Try.pinned (OpenSpec.ofChange consoleTextsWrong)

/-- 'baseboardlaw36.ConsoleRooms': WHATEVER THE INPUT: true; the input reads as it did. -/
def consoleRoomsSpec : ChangeSpec := { name := "consoleRooms", fn := fun _ => fun
  | [d1, d2] => { results := [.lit (.bool true)], args := [d1, d2] }
  | _ => none }
def consoleRoomsRow : OpenClaim := { program := "ytknapnleecepaaa", sum := "3feedef5e798287f707cd38deebdee3eb2fea096d80eac2fc35c35953365ed74", func := "baseboard/baseboardlaw36.ConsoleRooms", spec := "consoleRooms", apart := false }
def ConsoleRoomsSaid : Prop := consoleRoomsRow.holds Try.pinned (OpenSpec.ofChange consoleRoomsSpec)

/-- ITS FALSE NEIGHBOUR: 'it returns false'. Refute it at one input. -/
def consoleRoomsWrong : ChangeSpec := { name := "consoleRooms", fn := fun _ => fun
  | [d1, d2] => { results := [.lit (.bool false)], args := [d1, d2] }
  | _ => none }
def ConsoleRoomsWrongFalsely : Prop := consoleRoomsRow.holds Try.pinned (OpenSpec.ofChange consoleRoomsWrong)

/-- 'baseboardlaw36.ConsoleAnswers': WHATEVER THE INPUT: true; the input reads as it did. -/
def consoleAnswersSpec : ChangeSpec := { name := "consoleAnswers", fn := fun _ => fun
  | [d1, d2, d3, d4] => { results := [.lit (.bool true)], args := [d1, d2, d3, d4] }
  | _ => none }
def consoleAnswersRow : OpenClaim := { program := "ytknapnleecepaaa", sum := "3feedef5e798287f707cd38deebdee3eb2fea096d80eac2fc35c35953365ed74", func := "baseboard/baseboardlaw36.ConsoleAnswers", spec := "consoleAnswers", apart := false }
def ConsoleAnswersSaid : Prop := consoleAnswersRow.holds Try.pinned (OpenSpec.ofChange consoleAnswersSpec)

/-- ITS FALSE NEIGHBOUR: 'it returns false'. Refute it at one input. -/
def consoleAnswersWrong : ChangeSpec := { name := "consoleAnswers", fn := fun _ => fun
  | [d1, d2, d3, d4] => { results := [.lit (.bool false)], args := [d1, d2, d3, d4] }
  | _ => none }
def ConsoleAnswersWrongFalsely : Prop := consoleAnswersRow.holds Try.pinned (OpenSpec.ofChange consoleAnswersWrong)

/-- 'baseboardlaw36.ConsoleFlows': WHATEVER THE INPUT: true; the input reads as it did. -/
def consoleFlowsSpec : ChangeSpec := { name := "consoleFlows", fn := fun _ => fun
  | [d] => { results := [.lit (.bool true)], args := [d] }
  | _ => none }
def consoleFlowsRow : OpenClaim := { program := "ytknapnleecepaaa", sum := "3feedef5e798287f707cd38deebdee3eb2fea096d80eac2fc35c35953365ed74", func := "baseboard/baseboardlaw36.ConsoleFlows", spec := "consoleFlows", apart := false }
def ConsoleFlowsSaid : Prop := consoleFlowsRow.holds Try.pinned (OpenSpec.ofChange consoleFlowsSpec)

/-- ITS FALSE NEIGHBOUR: 'it returns false'. Refute it at one input. -/
def consoleFlowsWrong : ChangeSpec := { name := "consoleFlows", fn := fun _ => fun
  | [d] => { results := [.lit (.bool false)], args := [d] }
  | _ => none }
def ConsoleFlowsWrongFalsely : Prop := consoleFlowsRow.holds Try.pinned (OpenSpec.ofChange consoleFlowsWrong)

/-- 'baseboardlaw36.ConsoleNumbers': WHATEVER THE INPUT: true; the input reads as it did. -/
def consoleNumbersSpec : ChangeSpec := { name := "consoleNumbers", fn := fun _ => fun
  | [d1, d2] => { results := [.lit (.bool true)], args := [d1, d2] }
  | _ => none }
def consoleNumbersRow : OpenClaim := { program := "ytknapnleecepaaa", sum := "3feedef5e798287f707cd38deebdee3eb2fea096d80eac2fc35c35953365ed74", func := "baseboard/baseboardlaw36.ConsoleNumbers", spec := "consoleNumbers", apart := false }
def ConsoleNumbersSaid : Prop := consoleNumbersRow.holds Try.pinned (OpenSpec.ofChange consoleNumbersSpec)

/-- ITS FALSE NEIGHBOUR: 'it returns false'. Refute it at one input. -/
def consoleNumbersWrong : ChangeSpec := { name := "consoleNumbers", fn := fun _ => fun
  | [d1, d2] => { results := [.lit (.bool false)], args := [d1, d2] }
  | _ => none }
def ConsoleNumbersWrongFalsely : Prop := consoleNumbersRow.holds Try.pinned (OpenSpec.ofChange consoleNumbersWrong)

/- THE SECOND FORM. 'bulk': how many values and letters a reading holds, each counted each time it is reached (what is shared counts as often as it is met; a slice's spare places count too). A statement '..UptoSaid' is the law's where the arguments, and the package variables that the reading takes, are together of bulk at most 1048576: NARROWER than '..Said'. Prove '..Said' where nothing that the law and all that it calls make is longer than what came in: it says more and counts as full. Else prove '..UptoSaid'. A law counts once. -/
mutual
def uptoBulk {H : Type} : DataW H → Nat
  | .lit (.string bytes) => bytes.length + 1
  | .lit _ => 1
  | .nil => 1
  | .ptr d => uptoBulk d + 1
  | .slice elems spare => uptoBulkAll elems + uptoBulkAll spare + 1
  | .agg parts => uptoBulkAll parts + 1
  | .iface _ d => uptoBulk d + 1
  | .map entries => uptoBulkEntries entries + 1
  | .held _ => 1
def uptoBulkAll {H : Type} : List (DataW H) → Nat
  | [] => 0
  | d :: r => uptoBulk d + uptoBulkAll r
def uptoBulkEntries {H : Type} : List (Lit × DataW H) → Nat
  | [] => 0
  | x :: r => uptoBulkEntry x + uptoBulkEntries r
def uptoBulkEntry {H : Type} : Lit × DataW H → Nat
  | (.string bytes, d) => bytes.length + uptoBulk d + 1
  | (_, d) => uptoBulk d + 1
 end
def uptoSmall : (H : Type) → List (DataW H) → Bool := fun _ ds => decide (uptoBulkAll ds ≤ 1048576)
def OpenSpec.upto (s : _root_.Go.ChangeSpec) : _root_.Go.OpenSpec := { _root_.Go.OpenSpec.ofChange s with cond := some uptoSmall }

/-- 'baseboardlaw36.ConsoleTexts', WHERE WHAT IT READS IS OF BULK AT MOST 1048576: true; the input reads as it did. -/
def consoleTextsUptoRow : OpenClaim := { program := "ytknapnleecepaaa", sum := "3feedef5e798287f707cd38deebdee3eb2fea096d80eac2fc35c35953365ed74", func := "baseboard/baseboardlaw36.ConsoleTexts", spec := "consoleTexts", apart := false, narrowed := true }
def ConsoleTextsUptoSaid : Prop := consoleTextsUptoRow.holds Try.pinned (OpenSpec.upto consoleTextsSpec)

/-- 'baseboardlaw36.ConsoleRooms', WHERE WHAT IT READS IS OF BULK AT MOST 1048576: true; the input reads as it did. -/
def consoleRoomsUptoRow : OpenClaim := { program := "ytknapnleecepaaa", sum := "3feedef5e798287f707cd38deebdee3eb2fea096d80eac2fc35c35953365ed74", func := "baseboard/baseboardlaw36.ConsoleRooms", spec := "consoleRooms", apart := false, narrowed := true }
def ConsoleRoomsUptoSaid : Prop := consoleRoomsUptoRow.holds Try.pinned (OpenSpec.upto consoleRoomsSpec)

/-- 'baseboardlaw36.ConsoleAnswers', WHERE WHAT IT READS IS OF BULK AT MOST 1048576: true; the input reads as it did. -/
def consoleAnswersUptoRow : OpenClaim := { program := "ytknapnleecepaaa", sum := "3feedef5e798287f707cd38deebdee3eb2fea096d80eac2fc35c35953365ed74", func := "baseboard/baseboardlaw36.ConsoleAnswers", spec := "consoleAnswers", apart := false, narrowed := true }
def ConsoleAnswersUptoSaid : Prop := consoleAnswersUptoRow.holds Try.pinned (OpenSpec.upto consoleAnswersSpec)

/-- 'baseboardlaw36.ConsoleFlows', WHERE WHAT IT READS IS OF BULK AT MOST 1048576: true; the input reads as it did. -/
def consoleFlowsUptoRow : OpenClaim := { program := "ytknapnleecepaaa", sum := "3feedef5e798287f707cd38deebdee3eb2fea096d80eac2fc35c35953365ed74", func := "baseboard/baseboardlaw36.ConsoleFlows", spec := "consoleFlows", apart := false, narrowed := true }
def ConsoleFlowsUptoSaid : Prop := consoleFlowsUptoRow.holds Try.pinned (OpenSpec.upto consoleFlowsSpec)

/-- 'baseboardlaw36.ConsoleNumbers', WHERE WHAT IT READS IS OF BULK AT MOST 1048576: true; the input reads as it did. -/
def consoleNumbersUptoRow : OpenClaim := { program := "ytknapnleecepaaa", sum := "3feedef5e798287f707cd38deebdee3eb2fea096d80eac2fc35c35953365ed74", func := "baseboard/baseboardlaw36.ConsoleNumbers", spec := "consoleNumbers", apart := false, narrowed := true }
def ConsoleNumbersUptoSaid : Prop := consoleNumbersUptoRow.holds Try.pinned (OpenSpec.upto consoleNumbersSpec)

end Rows
end Go.Proofs.Ytknapnleecepaaa
