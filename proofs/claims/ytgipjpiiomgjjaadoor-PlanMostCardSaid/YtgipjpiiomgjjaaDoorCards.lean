/-
  DERIVED. GIVEN WITH THE SEED: THE CARDS: each row of YtgipjpiiomgjjaaDoorRows.lean that lists a variable, with what it lists TIED to the program's text (the seventh form; the later family's looks); each row that meets fmt, with fmt's text TOLD by the authors' own Lean function (tested against real Go, not proved from fmt's source: count such statements apart). THE CARD IS WHAT COUNTS. Prove the row's statement (the work); the ties are given (YtgipjpiiomgjjaaDoorTie.lean); close each card by the builder's one call (the guide's Derived/Test/ToyasCard.lean, 'card_holds'). Laid BY PROGRAM, IN A SANDBOX (cutbox-door.mjs). By AI agents, Wed Nov 11 2026. No macro, syntax, notation, axiom, sorry.
-/
import Derived.Test.YtgipjpiiomgjjaaDoorRows
import GoSem.ClaimSeven
namespace Go.Proofs.YtgipjpiiomgjjaaDoor
namespace Rows

/-- THE TIED CARD OF 'allotmentlaw19.PlanTexts'. -/
def planTextsCard : Claim7 := { stood := { row := planTextsRow, standIns := [], harness := (true, "39c6d02e7d46d9d375342d42058a22090ed568bee10043bd54abea6b53d902d9"), looks := false }, kinds := [], alts := [], laidByText := true, laidKinds := [.data, .data, .data], laidTests := true, laidLooks := .later }
def PlanTextsCardSaid : Prop := Claim7.holds Tryd.pinned (.plain (OpenSpec.ofChange planTextsSpec)) planTextsCard

/-- THE TIED CARD OF 'allotmentlaw19.PlanParts'. -/
def planPartsCard : Claim7 := { stood := { row := planPartsRow, standIns := [], harness := (true, "39c6d02e7d46d9d375342d42058a22090ed568bee10043bd54abea6b53d902d9"), looks := false }, kinds := [], alts := [], laidByText := true, laidKinds := [.data, .data, .data], laidTests := true, laidLooks := .later }
def PlanPartsCardSaid : Prop := Claim7.holds Tryd.pinned (.plain (OpenSpec.ofChange planPartsSpec)) planPartsCard

/-- THE TIED CARD OF 'allotmentlaw19.PlanSteps'. -/
def planStepsCard : Claim7 := { stood := { row := planStepsRow, standIns := [], harness := (true, "39c6d02e7d46d9d375342d42058a22090ed568bee10043bd54abea6b53d902d9"), looks := false }, kinds := [], alts := [], laidByText := true, laidKinds := [.data, .data, .data], laidTests := true, laidLooks := .later }
def PlanStepsCardSaid : Prop := Claim7.holds Tryd.pinned (.plain (OpenSpec.ofChange planStepsSpec)) planStepsCard

/-- THE TIED CARD OF 'allotmentlaw19.PlanRow'. -/
def planRowCard : Claim7 := { stood := { row := planRowRow, standIns := [], harness := (true, "39c6d02e7d46d9d375342d42058a22090ed568bee10043bd54abea6b53d902d9"), looks := false }, kinds := [], alts := [], laidByText := true, laidKinds := [.data, .data, .data], laidTests := true, laidLooks := .later }
def PlanRowCardSaid : Prop := Claim7.holds Tryd.pinned (.plain (OpenSpec.ofChange planRowSpec)) planRowCard

/-- THE TIED CARD OF 'allotmentlaw19.PlanMost'. -/
def planMostCard : Claim7 := { stood := { row := planMostRow, standIns := [], harness := (true, "39c6d02e7d46d9d375342d42058a22090ed568bee10043bd54abea6b53d902d9"), looks := false }, kinds := [], alts := [], laidByText := true, laidKinds := [.data, .data, .data], laidTests := true, laidLooks := .later }
def PlanMostCardSaid : Prop := Claim7.holds Tryd.pinned (.plain (OpenSpec.ofChange planMostSpec)) planMostCard

/-- THE SECOND FORM's CARD OF 'allotmentlaw19.PlanTexts'. -/
def planTextsUptoCard : Claim7 := { stood := { row := planTextsUptoRow, standIns := [], harness := (true, "39c6d02e7d46d9d375342d42058a22090ed568bee10043bd54abea6b53d902d9"), looks := false }, kinds := [], alts := [], laidByText := true, laidKinds := [.data, .data, .data], laidTests := true, laidLooks := .later }
def PlanTextsUptoCardSaid : Prop := Claim7.holds Tryd.pinned (.plain (OpenSpec.upto planTextsSpec)) planTextsUptoCard

/-- THE SECOND FORM's CARD OF 'allotmentlaw19.PlanParts'. -/
def planPartsUptoCard : Claim7 := { stood := { row := planPartsUptoRow, standIns := [], harness := (true, "39c6d02e7d46d9d375342d42058a22090ed568bee10043bd54abea6b53d902d9"), looks := false }, kinds := [], alts := [], laidByText := true, laidKinds := [.data, .data, .data], laidTests := true, laidLooks := .later }
def PlanPartsUptoCardSaid : Prop := Claim7.holds Tryd.pinned (.plain (OpenSpec.upto planPartsSpec)) planPartsUptoCard

/-- THE SECOND FORM's CARD OF 'allotmentlaw19.PlanSteps'. -/
def planStepsUptoCard : Claim7 := { stood := { row := planStepsUptoRow, standIns := [], harness := (true, "39c6d02e7d46d9d375342d42058a22090ed568bee10043bd54abea6b53d902d9"), looks := false }, kinds := [], alts := [], laidByText := true, laidKinds := [.data, .data, .data], laidTests := true, laidLooks := .later }
def PlanStepsUptoCardSaid : Prop := Claim7.holds Tryd.pinned (.plain (OpenSpec.upto planStepsSpec)) planStepsUptoCard

/-- THE SECOND FORM's CARD OF 'allotmentlaw19.PlanRow'. -/
def planRowUptoCard : Claim7 := { stood := { row := planRowUptoRow, standIns := [], harness := (true, "39c6d02e7d46d9d375342d42058a22090ed568bee10043bd54abea6b53d902d9"), looks := false }, kinds := [], alts := [], laidByText := true, laidKinds := [.data, .data, .data], laidTests := true, laidLooks := .later }
def PlanRowUptoCardSaid : Prop := Claim7.holds Tryd.pinned (.plain (OpenSpec.upto planRowSpec)) planRowUptoCard

/-- THE SECOND FORM's CARD OF 'allotmentlaw19.PlanMost'. -/
def planMostUptoCard : Claim7 := { stood := { row := planMostUptoRow, standIns := [], harness := (true, "39c6d02e7d46d9d375342d42058a22090ed568bee10043bd54abea6b53d902d9"), looks := false }, kinds := [], alts := [], laidByText := true, laidKinds := [.data, .data, .data], laidTests := true, laidLooks := .later }
def PlanMostUptoCardSaid : Prop := Claim7.holds Tryd.pinned (.plain (OpenSpec.upto planMostSpec)) planMostUptoCard
end Rows
end Go.Proofs.YtgipjpiiomgjjaaDoor
