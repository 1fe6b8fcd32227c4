/-
  No cell of these rows narrows 'for every input' (looked for: loops, veiled, ifaces, maps, wideKeys, modest, calm, conditions, laid).
  DERIVED. THE GIVEN ROWS OF THIS SEAT. 6 by the template 'for every input the law returns true; each argument reads behind the call as it read before'; 0 by the template 'total and deterministic' (their statements: YtfmndopgbikgjaaTotals.lean).
  GIVEN WITH THE SEED: the statements are not yours to turn. If you find one false, say at which input.
  Laid BY PROGRAM, IN A SANDBOX (cutbox-rows.mjs): the forced cells as the released guide's own fill.sh prints them over the translation ef5fcae5cc460918… (all of the seat's roots in one cut). By AI agents, Wed Nov 11 2026. No macro, syntax, notation, axiom, sorry.
-/
import Derived.Test.YtfmndopgbikgjaaChecked
import GoSem.Claim
import GoSem.ClaimJoined
import GoSem.ClaimMapViews
import Derived.JoinedTies
import Derived.KernelRfl
namespace Go.Proofs.Ytfmndopgbikgjaa
/- THE CELL 'sum', in the pinned program and in every row, IS THE sha256 OF THE DUMP (.gsa) THAT YtfmndopgbikgjaaProg.lean LOADS. Nothing in Lean hashes anything: it is a label: what it is worth is what the hold of that sum in a sandbox is worth. -/
noncomputable def Try.pinned : Pinned := { name := "ytfmndopgbikgjaa", sum := "ef5fcae5cc460918b7f1dcbd708782f2a6d3d9c97f198254d6f1fb7076737e1d", checked := Try.checked }
namespace Rows
def none {H : Type} : Left H := { results := [], args := [] }

/-- 'baseboardlaw37.EscapeDivides': WHATEVER THE INPUT: true; the input reads as it did. -/
def escapeDividesSpec : ChangeSpec := { name := "escapeDivides", fn := fun _ => fun
  | [d1, d2, d3] => { results := [.lit (.bool true)], args := [d1, d2, d3] }
  | _ => none }
def escapeDividesRow : OpenClaim := { program := "ytfmndopgbikgjaa", sum := "ef5fcae5cc460918b7f1dcbd708782f2a6d3d9c97f198254d6f1fb7076737e1d", func := "baseboard/baseboardlaw37.EscapeDivides", spec := "escapeDivides", unfollowed := true, recurses := true, apart := false }
def EscapeDividesSaid : Prop := escapeDividesRow.holds Try.pinned (OpenSpec.ofChange escapeDividesSpec)

/-- ITS FALSE NEIGHBOUR: 'it returns false'. Refute it at one input. -/
def escapeDividesWrong : ChangeSpec := { name := "escapeDivides", fn := fun _ => fun
  | [d1, d2, d3] => { results := [.lit (.bool false)], args := [d1, d2, d3] }
  | _ => none }
def EscapeDividesWrongFalsely : Prop := escapeDividesRow.holds Try.pinned (OpenSpec.ofChange escapeDividesWrong)

/-- 'baseboardlaw37.EscapeStrips': WHATEVER THE INPUT: true; the input reads as it did. -/
def escapeStripsSpec : ChangeSpec := { name := "escapeStrips", fn := fun _ => fun
  | [d1, d2] => { results := [.lit (.bool true)], args := [d1, d2] }
  | _ => none }
def escapeStripsRow : OpenClaim := { program := "ytfmndopgbikgjaa", sum := "ef5fcae5cc460918b7f1dcbd708782f2a6d3d9c97f198254d6f1fb7076737e1d", func := "baseboard/baseboardlaw37.EscapeStrips", spec := "escapeStrips", unfollowed := true, recurses := true, apart := false }
def EscapeStripsSaid : Prop := escapeStripsRow.holds Try.pinned (OpenSpec.ofChange escapeStripsSpec)

/-- ITS FALSE NEIGHBOUR: 'it returns false'. Refute it at one input. -/
def escapeStripsWrong : ChangeSpec := { name := "escapeStrips", fn := fun _ => fun
  | [d1, d2] => { results := [.lit (.bool false)], args := [d1, d2] }
  | _ => none }
def EscapeStripsWrongFalsely : Prop := escapeStripsRow.holds Try.pinned (OpenSpec.ofChange escapeStripsWrong)

/-- 'baseboardlaw37.EscapeActions': WHATEVER THE INPUT: true; the input reads as it did. -/
def escapeActionsSpec : ChangeSpec := { name := "escapeActions", fn := fun _ => fun
  | [d1, d2, d3] => { results := [.lit (.bool true)], args := [d1, d2, d3] }
  | _ => none }
def escapeActionsRow : OpenClaim := { program := "ytfmndopgbikgjaa", sum := "ef5fcae5cc460918b7f1dcbd708782f2a6d3d9c97f198254d6f1fb7076737e1d", func := "baseboard/baseboardlaw37.EscapeActions", spec := "escapeActions", unfollowed := true, recurses := true, apart := false }
def EscapeActionsSaid : Prop := escapeActionsRow.holds Try.pinned (OpenSpec.ofChange escapeActionsSpec)

/-- ITS FALSE NEIGHBOUR: 'it returns false'. Refute it at one input. -/
def escapeActionsWrong : ChangeSpec := { name := "escapeActions", fn := fun _ => fun
  | [d1, d2, d3] => { results := [.lit (.bool false)], args := [d1, d2, d3] }
  | _ => none }
def EscapeActionsWrongFalsely : Prop := escapeActionsRow.holds Try.pinned (OpenSpec.ofChange escapeActionsWrong)

/-- 'baseboardlaw37.EscapeAnswers': WHATEVER THE INPUT: true; the input reads as it did. -/
def escapeAnswersSpec : ChangeSpec := { name := "escapeAnswers", fn := fun _ => fun
  | [d1, d2, d3, d4] => { results := [.lit (.bool true)], args := [d1, d2, d3, d4] }
  | _ => none }
def escapeAnswersRow : OpenClaim := { program := "ytfmndopgbikgjaa", sum := "ef5fcae5cc460918b7f1dcbd708782f2a6d3d9c97f198254d6f1fb7076737e1d", func := "baseboard/baseboardlaw37.EscapeAnswers", spec := "escapeAnswers", unfollowed := true, recurses := true, apart := false }
def EscapeAnswersSaid : Prop := escapeAnswersRow.holds Try.pinned (OpenSpec.ofChange escapeAnswersSpec)

/-- ITS FALSE NEIGHBOUR: 'it returns false'. Refute it at one input. -/
def escapeAnswersWrong : ChangeSpec := { name := "escapeAnswers", fn := fun _ => fun
  | [d1, d2, d3, d4] => { results := [.lit (.bool false)], args := [d1, d2, d3, d4] }
  | _ => none }
def EscapeAnswersWrongFalsely : Prop := escapeAnswersRow.holds Try.pinned (OpenSpec.ofChange escapeAnswersWrong)

/-- 'baseboardlaw37.EscapeQuotes': WHATEVER THE INPUT: true; the input reads as it did. -/
def escapeQuotesSpec : ChangeSpec := { name := "escapeQuotes", fn := fun _ => fun
  | [d] => { results := [.lit (.bool true)], args := [d] }
  | _ => none }
def escapeQuotesRow : OpenClaim := { program := "ytfmndopgbikgjaa", sum := "ef5fcae5cc460918b7f1dcbd708782f2a6d3d9c97f198254d6f1fb7076737e1d", func := "baseboard/baseboardlaw37.EscapeQuotes", spec := "escapeQuotes", unfollowed := true, recurses := true, apart := false }
def EscapeQuotesSaid : Prop := escapeQuotesRow.holds Try.pinned (OpenSpec.ofChange escapeQuotesSpec)

/-- ITS FALSE NEIGHBOUR: 'it returns false'. Refute it at one input. -/
def escapeQuotesWrong : ChangeSpec := { name := "escapeQuotes", fn := fun _ => fun
  | [d] => { results := [.lit (.bool false)], args := [d] }
  | _ => none }
def EscapeQuotesWrongFalsely : Prop := escapeQuotesRow.holds Try.pinned (OpenSpec.ofChange escapeQuotesWrong)

/-- 'baseboardlaw37.EscapeText': WHATEVER THE INPUT: true; the input reads as it did. -/
def escapeTextSpec : ChangeSpec := { name := "escapeText", fn := fun _ => fun
  | [d] => { results := [.lit (.bool true)], args := [d] }
  | _ => none }
def escapeTextRow : OpenClaim := { program := "ytfmndopgbikgjaa", sum := "ef5fcae5cc460918b7f1dcbd708782f2a6d3d9c97f198254d6f1fb7076737e1d", func := "baseboard/baseboardlaw37.EscapeText", spec := "escapeText", unfollowed := true, recurses := true, apart := false }
def EscapeTextSaid : Prop := escapeTextRow.holds Try.pinned (OpenSpec.ofChange escapeTextSpec)

/-- ITS FALSE NEIGHBOUR: 'it returns false'. Refute it at one input. -/
def escapeTextWrong : ChangeSpec := { name := "escapeText", fn := fun _ => fun
  | [d] => { results := [.lit (.bool false)], args := [d] }
  | _ => none }
def EscapeTextWrongFalsely : Prop := escapeTextRow.holds Try.pinned (OpenSpec.ofChange escapeTextWrong)

/- THE SECOND FORM. 'bulk': how many values and letters a reading holds, each counted each time it is reached (what is shared counts as often as it is met; a slice's spare places count too). A statement '..UptoSaid' is the law's where the arguments, and the package variables that the reading takes, are together of bulk at most 1048576: NARROWER than '..Said'. Prove '..Said' where nothing that the law and all that it calls make is longer than what came in: it says more and counts as full. Else prove '..UptoSaid'. A law counts once. -/
mutual
def uptoBulk {H : Type} : DataW H → Nat
  | .lit (.string bytes) => bytes.length + 1
  | .lit _ => 1
  | .nil => 1
  | .ptr d => uptoBulk d + 1
  | .slice elems spare => uptoBulkAll elems + uptoBulkAll spare + 1
  | .agg parts => uptoBulkAll parts + 1
  | .iface _ d => uptoBulk d + 1
  | .map entries => uptoBulkEntries entries + 1
  | .held _ => 1
def uptoBulkAll {H : Type} : List (DataW H) → Nat
  | [] => 0
  | d :: r => uptoBulk d + uptoBulkAll r
def uptoBulkEntries {H : Type} : List (Lit × DataW H) → Nat
  | [] => 0
  | x :: r => uptoBulkEntry x + uptoBulkEntries r
def uptoBulkEntry {H : Type} : Lit × DataW H → Nat
  | (.string bytes, d) => bytes.length + uptoBulk d + 1
  | (_, d) => uptoBulk d + 1
 end
def uptoSmall : (H : Type) → List (DataW H) → Bool := fun _ ds => decide (uptoBulkAll ds ≤ 1048576)
def OpenSpec.upto (s : _root_.Go.ChangeSpec) : _root_.Go.OpenSpec := { _root_.Go.OpenSpec.ofChange s with cond := some uptoSmall }

/-- 'baseboardlaw37.EscapeDivides', WHERE WHAT IT READS IS OF BULK AT MOST 1048576: true; the input reads as it did. -/
def escapeDividesUptoRow : OpenClaim := { program := "ytfmndopgbikgjaa", sum := "ef5fcae5cc460918b7f1dcbd708782f2a6d3d9c97f198254d6f1fb7076737e1d", func := "baseboard/baseboardlaw37.EscapeDivides", spec := "escapeDivides", unfollowed := true, recurses := true, apart := false, narrowed := true }
def EscapeDividesUptoSaid : Prop := escapeDividesUptoRow.holds Try.pinned (OpenSpec.upto escapeDividesSpec)

/-- 'baseboardlaw37.EscapeStrips', WHERE WHAT IT READS IS OF BULK AT MOST 1048576: true; the input reads as it did. -/
def escapeStripsUptoRow : OpenClaim := { program := "ytfmndopgbikgjaa", sum := "ef5fcae5cc460918b7f1dcbd708782f2a6d3d9c97f198254d6f1fb7076737e1d", func := "baseboard/baseboardlaw37.EscapeStrips", spec := "escapeStrips", unfollowed := true, recurses := true, apart := false, narrowed := true }
def EscapeStripsUptoSaid : Prop := escapeStripsUptoRow.holds Try.pinned (OpenSpec.upto escapeStripsSpec)

/-- 'baseboardlaw37.EscapeActions', WHERE WHAT IT READS IS OF BULK AT MOST 1048576: true; the input reads as it did. -/
def escapeActionsUptoRow : OpenClaim := { program := "ytfmndopgbikgjaa", sum := "ef5fcae5cc460918b7f1dcbd708782f2a6d3d9c97f198254d6f1fb7076737e1d", func := "baseboard/baseboardlaw37.EscapeActions", spec := "escapeActions", unfollowed := true, recurses := true, apart := false, narrowed := true }
def EscapeActionsUptoSaid : Prop := escapeActionsUptoRow.holds Try.pinned (OpenSpec.upto escapeActionsSpec)

/-- 'baseboardlaw37.EscapeAnswers', WHERE WHAT IT READS IS OF BULK AT MOST 1048576: true; the input reads as it did. -/
def escapeAnswersUptoRow : OpenClaim := { program := "ytfmndopgbikgjaa", sum := "ef5fcae5cc460918b7f1dcbd708782f2a6d3d9c97f198254d6f1fb7076737e1d", func := "baseboard/baseboardlaw37.EscapeAnswers", spec := "escapeAnswers", unfollowed := true, recurses := true, apart := false, narrowed := true }
def EscapeAnswersUptoSaid : Prop := escapeAnswersUptoRow.holds Try.pinned (OpenSpec.upto escapeAnswersSpec)

/-- 'baseboardlaw37.EscapeQuotes', WHERE WHAT IT READS IS OF BULK AT MOST 1048576: true; the input reads as it did. -/
def escapeQuotesUptoRow : OpenClaim := { program := "ytfmndopgbikgjaa", sum := "ef5fcae5cc460918b7f1dcbd708782f2a6d3d9c97f198254d6f1fb7076737e1d", func := "baseboard/baseboardlaw37.EscapeQuotes", spec := "escapeQuotes", unfollowed := true, recurses := true, apart := false, narrowed := true }
def EscapeQuotesUptoSaid : Prop := escapeQuotesUptoRow.holds Try.pinned (OpenSpec.upto escapeQuotesSpec)

/-- 'baseboardlaw37.EscapeText', WHERE WHAT IT READS IS OF BULK AT MOST 1048576: true; the input reads as it did. -/
def escapeTextUptoRow : OpenClaim := { program := "ytfmndopgbikgjaa", sum := "ef5fcae5cc460918b7f1dcbd708782f2a6d3d9c97f198254d6f1fb7076737e1d", func := "baseboard/baseboardlaw37.EscapeText", spec := "escapeText", unfollowed := true, recurses := true, apart := false, narrowed := true }
def EscapeTextUptoSaid : Prop := escapeTextUptoRow.holds Try.pinned (OpenSpec.upto escapeTextSpec)

end Rows
end Go.Proofs.Ytfmndopgbikgjaa
