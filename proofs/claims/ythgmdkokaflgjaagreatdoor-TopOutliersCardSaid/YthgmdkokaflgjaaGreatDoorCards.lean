/-
  DERIVED. GIVEN WITH THE SEED: THE CARDS: each row of YthgmdkokaflgjaaGreatDoorRows.lean that lists a variable, with what it lists TIED to the program's text (the seventh form; the later family's looks); each row that meets fmt, with fmt's text TOLD by the authors' own Lean function (tested against real Go, not proved from fmt's source: count such statements apart). THE CARD IS WHAT COUNTS. Prove the row's statement (the work); the ties are given (YthgmdkokaflgjaaGreatDoorTie.lean); close each card by the builder's one call (the guide's Derived/Test/ToyasCard.lean, 'card_holds'). Laid BY PROGRAM, IN A SANDBOX (cutbox-door.mjs). By AI agents, Wed Nov 11 2026. No macro, syntax, notation, axiom, sorry.
-/
import Derived.Test.YthgmdkokaflgjaaGreatDoorRows
import GoSem.ClaimSeven
namespace Go.Proofs.YthgmdkokaflgjaaGreatDoor
namespace Rows

/-- THE TIED CARD OF 'baseboardtop.TopOutliers'. -/
def topOutliersCard : Claim7 := { stood := { row := topOutliersRow, standIns := [], harness := (true, "ba7e5234d014e39aefa8098911d24cb5691d9f787da6d2c6dc44818642b90ee9"), looks := false }, kinds := [], alts := [], laidByText := true, laidKinds := [.widerDeep], laidTests := true, laidLooks := .later }
def TopOutliersCardSaid : Prop := Claim7.holds Tryz.pinned (.plain (OpenSpec.ofChange topOutliersSpec)) topOutliersCard

/-- THE TIED CARD OF 'baseboardtop.TopGaps'. -/
def topGapsCard : Claim7 := { stood := { row := topGapsRow, standIns := [], harness := (true, "ba7e5234d014e39aefa8098911d24cb5691d9f787da6d2c6dc44818642b90ee9"), looks := false }, kinds := [], alts := [], laidByText := true, laidKinds := [.widerDeep], laidTests := true, laidLooks := .later }
def TopGapsCardSaid : Prop := Claim7.holds Tryz.pinned (.plain (OpenSpec.ofChange topGapsSpec)) topGapsCard

/-- THE TIED CARD OF 'baseboardtop.TopTimed'. -/
def topTimedCard : Claim7 := { stood := { row := topTimedRow, standIns := [], harness := (true, "ba7e5234d014e39aefa8098911d24cb5691d9f787da6d2c6dc44818642b90ee9"), looks := false }, kinds := [], alts := [], laidByText := true, laidKinds := [.widerDeep], laidTests := true, laidLooks := .later }
def TopTimedCardSaid : Prop := Claim7.holds Tryz.pinned (.plain (OpenSpec.ofChange topTimedSpec)) topTimedCard

/-- THE SECOND FORM's CARD OF 'baseboardtop.TopOutliers'. -/
def topOutliersUptoCard : Claim7 := { stood := { row := topOutliersUptoRow, standIns := [], harness := (true, "ba7e5234d014e39aefa8098911d24cb5691d9f787da6d2c6dc44818642b90ee9"), looks := false }, kinds := [], alts := [], laidByText := true, laidKinds := [.widerDeep], laidTests := true, laidLooks := .later }
def TopOutliersUptoCardSaid : Prop := Claim7.holds Tryz.pinned (.plain (OpenSpec.upto topOutliersSpec)) topOutliersUptoCard

/-- THE SECOND FORM's CARD OF 'baseboardtop.TopGaps'. -/
def topGapsUptoCard : Claim7 := { stood := { row := topGapsUptoRow, standIns := [], harness := (true, "ba7e5234d014e39aefa8098911d24cb5691d9f787da6d2c6dc44818642b90ee9"), looks := false }, kinds := [], alts := [], laidByText := true, laidKinds := [.widerDeep], laidTests := true, laidLooks := .later }
def TopGapsUptoCardSaid : Prop := Claim7.holds Tryz.pinned (.plain (OpenSpec.upto topGapsSpec)) topGapsUptoCard

/-- THE SECOND FORM's CARD OF 'baseboardtop.TopTimed'. -/
def topTimedUptoCard : Claim7 := { stood := { row := topTimedUptoRow, standIns := [], harness := (true, "ba7e5234d014e39aefa8098911d24cb5691d9f787da6d2c6dc44818642b90ee9"), looks := false }, kinds := [], alts := [], laidByText := true, laidKinds := [.widerDeep], laidTests := true, laidLooks := .later }
def TopTimedUptoCardSaid : Prop := Claim7.holds Tryz.pinned (.plain (OpenSpec.upto topTimedSpec)) topTimedUptoCard
end Rows
end Go.Proofs.YthgmdkokaflgjaaGreatDoor
