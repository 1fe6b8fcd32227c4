/-
  No cell of these rows narrows 'for every input' (looked for: loops, veiled, ifaces, maps, wideKeys, modest, calm, conditions, laid).
  DERIVED. THE GIVEN ROWS OF THIS SEAT. 5 by the template 'for every input the law returns true; each argument reads behind the call as it read before'; 0 by the template 'total and deterministic' (their statements: YtklbnccpeeehkaaTotals.lean).
  GIVEN WITH THE SEED: the statements are not yours to turn. If you find one false, say at which input.
  Laid BY PROGRAM, IN A SANDBOX (cutbox-rows.mjs): the forced cells as the released guide's own fill.sh prints them over the translation f71095ea85116461… (all of the seat's roots in one cut). By AI agents, Wed Nov 11 2026. No macro, syntax, notation, axiom, sorry.
-/
import Derived.Test.YtklbnccpeeehkaaChecked
import GoSem.Claim
import GoSem.ClaimJoined
import GoSem.ClaimMapViews
import Derived.JoinedTies
import Derived.KernelRfl
namespace Go.Proofs.Ytklbnccpeeehkaa
/- THE CELL 'sum', in the pinned program and in every row, IS THE sha256 OF THE DUMP (.gsa) THAT YtklbnccpeeehkaaProg.lean LOADS. Nothing in Lean hashes anything: it is a label: what it is worth is what the hold of that sum in a sandbox is worth. -/
noncomputable def Try.pinned : Pinned := { name := "ytklbnccpeeehkaa", sum := "f71095ea851164611e59e0d7571dfc679b3ffb9af67e3f92cbea0002b06edea2", checked := Try.checked }
namespace Rows
def none {H : Type} : Left H := { results := [], args := [] }

/-- 'baseboardlaw18.MultirecordFinds': WHATEVER THE INPUT: true; the input reads as it did. -/
def multirecordFindsSpec : ChangeSpec := { name := "multirecordFinds", fn := fun _ => fun
  | [d1, d2, d3, d4, d5] => { results := [.lit (.bool true)], args := [d1, d2, d3, d4, d5] }
  | _ => none }
def multirecordFindsRow : OpenClaim := { program := "ytklbnccpeeehkaa", sum := "f71095ea851164611e59e0d7571dfc679b3ffb9af67e3f92cbea0002b06edea2", func := "baseboard/baseboardlaw18.MultirecordFinds", spec := "multirecordFinds", apart := false }
def MultirecordFindsSaid : Prop := multirecordFindsRow.holds Try.pinned (OpenSpec.ofChange multirecordFindsSpec)

/-- ITS FALSE NEIGHBOUR: 'it returns false'. Refute it at one input. -/
def multirecordFindsWrong : ChangeSpec := { name := "multirecordFinds", fn := fun _ => fun
  | [d1, d2, d3, d4, d5] => { results := [.lit (.bool false)], args := [d1, d2, d3, d4, d5] }
  | _ => none }
def MultirecordFindsWrongFalsely : Prop := multirecordFindsRow.holds Try.pinned (OpenSpec.ofChange multirecordFindsWrong)

/-- 'baseboardlaw18.MultirecordPuts': WHATEVER THE INPUT: true; the input reads as it did. -/
def multirecordPutsSpec : ChangeSpec := { name := "multirecordPuts", fn := fun _ => fun
  | [d1, d2, d3, d4] => { results := [.lit (.bool true)], args := [d1, d2, d3, d4] }
  | _ => none }
def multirecordPutsRow : OpenClaim := { program := "ytklbnccpeeehkaa", sum := "f71095ea851164611e59e0d7571dfc679b3ffb9af67e3f92cbea0002b06edea2", func := "baseboard/baseboardlaw18.MultirecordPuts", spec := "multirecordPuts", apart := false }
def MultirecordPutsSaid : Prop := multirecordPutsRow.holds Try.pinned (OpenSpec.ofChange multirecordPutsSpec)

/-- ITS FALSE NEIGHBOUR: 'it returns false'. Refute it at one input. -/
def multirecordPutsWrong : ChangeSpec := { name := "multirecordPuts", fn := fun _ => fun
  | [d1, d2, d3, d4] => { results := [.lit (.bool false)], args := [d1, d2, d3, d4] }
  | _ => none }
def MultirecordPutsWrongFalsely : Prop := multirecordPutsRow.holds Try.pinned (OpenSpec.ofChange multirecordPutsWrong)

/-- 'baseboardlaw18.MultirecordBytes': WHATEVER THE INPUT: true; the input reads as it did. -/
def multirecordBytesSpec : ChangeSpec := { name := "multirecordBytes", fn := fun _ => fun
  | [d1, d2, d3] => { results := [.lit (.bool true)], args := [d1, d2, d3] }
  | _ => none }
def multirecordBytesRow : OpenClaim := { program := "ytklbnccpeeehkaa", sum := "f71095ea851164611e59e0d7571dfc679b3ffb9af67e3f92cbea0002b06edea2", func := "baseboard/baseboardlaw18.MultirecordBytes", spec := "multirecordBytes", apart := false }
def MultirecordBytesSaid : Prop := multirecordBytesRow.holds Try.pinned (OpenSpec.ofChange multirecordBytesSpec)

/-- ITS FALSE NEIGHBOUR: 'it returns false'. Refute it at one input. -/
def multirecordBytesWrong : ChangeSpec := { name := "multirecordBytes", fn := fun _ => fun
  | [d1, d2, d3] => { results := [.lit (.bool false)], args := [d1, d2, d3] }
  | _ => none }
def MultirecordBytesWrongFalsely : Prop := multirecordBytesRow.holds Try.pinned (OpenSpec.ofChange multirecordBytesWrong)

/-- 'baseboardlaw18.MultirecordReturns': WHATEVER THE INPUT: true; the input reads as it did. -/
def multirecordReturnsSpec : ChangeSpec := { name := "multirecordReturns", fn := fun _ => fun
  | [d1, d2, d3, d4] => { results := [.lit (.bool true)], args := [d1, d2, d3, d4] }
  | _ => none }
def multirecordReturnsRow : OpenClaim := { program := "ytklbnccpeeehkaa", sum := "f71095ea851164611e59e0d7571dfc679b3ffb9af67e3f92cbea0002b06edea2", func := "baseboard/baseboardlaw18.MultirecordReturns", spec := "multirecordReturns", apart := false }
def MultirecordReturnsSaid : Prop := multirecordReturnsRow.holds Try.pinned (OpenSpec.ofChange multirecordReturnsSpec)

/-- ITS FALSE NEIGHBOUR: 'it returns false'. Refute it at one input. -/
def multirecordReturnsWrong : ChangeSpec := { name := "multirecordReturns", fn := fun _ => fun
  | [d1, d2, d3, d4] => { results := [.lit (.bool false)], args := [d1, d2, d3, d4] }
  | _ => none }
def MultirecordReturnsWrongFalsely : Prop := multirecordReturnsRow.holds Try.pinned (OpenSpec.ofChange multirecordReturnsWrong)

/-- 'baseboardlaw18.MultirecordMany': WHATEVER THE INPUT: true; the input reads as it did. -/
def multirecordManySpec : ChangeSpec := { name := "multirecordMany", fn := fun _ => fun
  | [d1, d2] => { results := [.lit (.bool true)], args := [d1, d2] }
  | _ => none }
def multirecordManyRow : OpenClaim := { program := "ytklbnccpeeehkaa", sum := "f71095ea851164611e59e0d7571dfc679b3ffb9af67e3f92cbea0002b06edea2", func := "baseboard/baseboardlaw18.MultirecordMany", spec := "multirecordMany", apart := false }
def MultirecordManySaid : Prop := multirecordManyRow.holds Try.pinned (OpenSpec.ofChange multirecordManySpec)

/-- ITS FALSE NEIGHBOUR: 'it returns false'. Refute it at one input. -/
def multirecordManyWrong : ChangeSpec := { name := "multirecordMany", fn := fun _ => fun
  | [d1, d2] => { results := [.lit (.bool false)], args := [d1, d2] }
  | _ => none }
def MultirecordManyWrongFalsely : Prop := multirecordManyRow.holds Try.pinned (OpenSpec.ofChange multirecordManyWrong)

/- THE SECOND FORM. 'bulk': how many values and letters a reading holds, each counted each time it is reached (what is shared counts as often as it is met; a slice's spare places count too). A statement '..UptoSaid' is the law's where the arguments, and the package variables that the reading takes, are together of bulk at most 1048576: NARROWER than '..Said'. Prove '..Said' where nothing that the law and all that it calls make is longer than what came in: it says more and counts as full. Else prove '..UptoSaid'. A law counts once. -/
mutual
def uptoBulk {H : Type} : DataW H → Nat
  | .lit (.string bytes) => bytes.length + 1
  | .lit _ => 1
  | .nil => 1
  | .ptr d => uptoBulk d + 1
  | .slice elems spare => uptoBulkAll elems + uptoBulkAll spare + 1
  | .agg parts => uptoBulkAll parts + 1
  | .iface _ d => uptoBulk d + 1
  | .map entries => uptoBulkEntries entries + 1
  | .held _ => 1
def uptoBulkAll {H : Type} : List (DataW H) → Nat
  | [] => 0
  | d :: r => uptoBulk d + uptoBulkAll r
def uptoBulkEntries {H : Type} : List (Lit × DataW H) → Nat
  | [] => 0
  | x :: r => uptoBulkEntry x + uptoBulkEntries r
def uptoBulkEntry {H : Type} : Lit × DataW H → Nat
  | (.string bytes, d) => bytes.length + uptoBulk d + 1
  | (_, d) => uptoBulk d + 1
 end
def uptoSmall : (H : Type) → List (DataW H) → Bool := fun _ ds => decide (uptoBulkAll ds ≤ 1048576)
def OpenSpec.upto (s : _root_.Go.ChangeSpec) : _root_.Go.OpenSpec := { _root_.Go.OpenSpec.ofChange s with cond := some uptoSmall }

/-- 'baseboardlaw18.MultirecordFinds', WHERE WHAT IT READS IS OF BULK AT MOST 1048576: true; the input reads as it did. -/
def multirecordFindsUptoRow : OpenClaim := { program := "ytklbnccpeeehkaa", sum := "f71095ea851164611e59e0d7571dfc679b3ffb9af67e3f92cbea0002b06edea2", func := "baseboard/baseboardlaw18.MultirecordFinds", spec := "multirecordFinds", apart := false, narrowed := true }
def MultirecordFindsUptoSaid : Prop := multirecordFindsUptoRow.holds Try.pinned (OpenSpec.upto multirecordFindsSpec)

/-- 'baseboardlaw18.MultirecordPuts', WHERE WHAT IT READS IS OF BULK AT MOST 1048576: true; the input reads as it did. -/
def multirecordPutsUptoRow : OpenClaim := { program := "ytklbnccpeeehkaa", sum := "f71095ea851164611e59e0d7571dfc679b3ffb9af67e3f92cbea0002b06edea2", func := "baseboard/baseboardlaw18.MultirecordPuts", spec := "multirecordPuts", apart := false, narrowed := true }
def MultirecordPutsUptoSaid : Prop := multirecordPutsUptoRow.holds Try.pinned (OpenSpec.upto multirecordPutsSpec)

/-- 'baseboardlaw18.MultirecordBytes', WHERE WHAT IT READS IS OF BULK AT MOST 1048576: true; the input reads as it did. -/
def multirecordBytesUptoRow : OpenClaim := { program := "ytklbnccpeeehkaa", sum := "f71095ea851164611e59e0d7571dfc679b3ffb9af67e3f92cbea0002b06edea2", func := "baseboard/baseboardlaw18.MultirecordBytes", spec := "multirecordBytes", apart := false, narrowed := true }
def MultirecordBytesUptoSaid : Prop := multirecordBytesUptoRow.holds Try.pinned (OpenSpec.upto multirecordBytesSpec)

/-- 'baseboardlaw18.MultirecordReturns', WHERE WHAT IT READS IS OF BULK AT MOST 1048576: true; the input reads as it did. -/
def multirecordReturnsUptoRow : OpenClaim := { program := "ytklbnccpeeehkaa", sum := "f71095ea851164611e59e0d7571dfc679b3ffb9af67e3f92cbea0002b06edea2", func := "baseboard/baseboardlaw18.MultirecordReturns", spec := "multirecordReturns", apart := false, narrowed := true }
def MultirecordReturnsUptoSaid : Prop := multirecordReturnsUptoRow.holds Try.pinned (OpenSpec.upto multirecordReturnsSpec)

/-- 'baseboardlaw18.MultirecordMany', WHERE WHAT IT READS IS OF BULK AT MOST 1048576: true; the input reads as it did. -/
def multirecordManyUptoRow : OpenClaim := { program := "ytklbnccpeeehkaa", sum := "f71095ea851164611e59e0d7571dfc679b3ffb9af67e3f92cbea0002b06edea2", func := "baseboard/baseboardlaw18.MultirecordMany", spec := "multirecordMany", apart := false, narrowed := true }
def MultirecordManyUptoSaid : Prop := multirecordManyUptoRow.holds Try.pinned (OpenSpec.upto multirecordManySpec)

end Rows
end Go.Proofs.Ytklbnccpeeehkaa
