/-
  DERIVED. GIVEN WITH THE SEED: THE CARDS: each row of YtdhpmegbmjoekaaGreatDoorRows.lean that lists a variable, with what it lists TIED to the program's text (the seventh form; the later family's looks); each row that meets fmt, with fmt's text TOLD by the authors' own Lean function (tested against real Go, not proved from fmt's source: count such statements apart). THE CARD IS WHAT COUNTS. Prove the row's statement (the work); the ties are given (YtdhpmegbmjoekaaGreatDoorTie.lean); close each card by the builder's one call (the guide's Derived/Test/ToyasCard.lean, 'card_holds'). Laid BY PROGRAM, IN A SANDBOX (cutbox-door.mjs). By AI agents, Wed Nov 11 2026. No macro, syntax, notation, axiom, sorry.
-/
import Derived.Test.YtdhpmegbmjoekaaGreatDoorRows
import GoSem.ClaimSeven
namespace Go.Proofs.YtdhpmegbmjoekaaGreatDoor
namespace Rows

/-- THE TIED CARD OF 'earshotlaw22.PlanMakes'. -/
def planMakesCard : Claim7 := { stood := { row := planMakesRow, standIns := [], harness := (true, "e8516d44fa406f9624674b5fc4bc46ed197ea5d2413a9bb05b121631932877e3"), looks := false }, kinds := [], alts := [], laidByText := true, laidKinds := [.data], laidTests := true, laidLooks := .later }
def PlanMakesCardSaid : Prop := Claim7.holds Tryz.pinned (.plain (OpenSpec.ofChange planMakesSpec)) planMakesCard

/-- THE TIED CARD OF 'earshotlaw22.PlanKeeps'. -/
def planKeepsCard : Claim7 := { stood := { row := planKeepsRow, standIns := [], harness := (true, "e8516d44fa406f9624674b5fc4bc46ed197ea5d2413a9bb05b121631932877e3"), looks := false }, kinds := [], alts := [], laidByText := true, laidKinds := [.data], laidTests := true, laidLooks := .later }
def PlanKeepsCardSaid : Prop := Claim7.holds Tryz.pinned (.plain (OpenSpec.ofChange planKeepsSpec)) planKeepsCard

/-- THE TIED CARD OF 'earshotlaw22.PlanApart'. -/
def planApartCard : Claim7 := { stood := { row := planApartRow, standIns := [], harness := (true, "e8516d44fa406f9624674b5fc4bc46ed197ea5d2413a9bb05b121631932877e3"), looks := false }, kinds := [], alts := [], laidByText := true, laidKinds := [.data], laidTests := true, laidLooks := .later }
def PlanApartCardSaid : Prop := Claim7.holds Tryz.pinned (.plain (OpenSpec.ofChange planApartSpec)) planApartCard

/-- THE TIED CARD OF 'earshotlaw22.PlanTotal'. -/
def planTotalCard : Claim7 := { stood := { row := planTotalRow, standIns := [], harness := (true, "e8516d44fa406f9624674b5fc4bc46ed197ea5d2413a9bb05b121631932877e3"), looks := false }, kinds := [], alts := [], laidByText := true, laidKinds := [.data], laidTests := true, laidLooks := .later }
def PlanTotalCardSaid : Prop := Claim7.holds Tryz.pinned (.plain (OpenSpec.ofChange planTotalSpec)) planTotalCard

/-- THE TIED CARD OF 'earshotlaw22.PlanRight'. -/
def planRightCard : Claim7 := { stood := { row := planRightRow, standIns := [], harness := (true, "e8516d44fa406f9624674b5fc4bc46ed197ea5d2413a9bb05b121631932877e3"), looks := false }, kinds := [], alts := [], laidByText := true, laidKinds := [.data], laidTests := true, laidLooks := .later }
def PlanRightCardSaid : Prop := Claim7.holds Tryz.pinned (.plain (OpenSpec.ofChange planRightSpec)) planRightCard

/-- THE SECOND FORM's CARD OF 'earshotlaw22.PlanMakes'. -/
def planMakesUptoCard : Claim7 := { stood := { row := planMakesUptoRow, standIns := [], harness := (true, "e8516d44fa406f9624674b5fc4bc46ed197ea5d2413a9bb05b121631932877e3"), looks := false }, kinds := [], alts := [], laidByText := true, laidKinds := [.data], laidTests := true, laidLooks := .later }
def PlanMakesUptoCardSaid : Prop := Claim7.holds Tryz.pinned (.plain (OpenSpec.upto planMakesSpec)) planMakesUptoCard

/-- THE SECOND FORM's CARD OF 'earshotlaw22.PlanKeeps'. -/
def planKeepsUptoCard : Claim7 := { stood := { row := planKeepsUptoRow, standIns := [], harness := (true, "e8516d44fa406f9624674b5fc4bc46ed197ea5d2413a9bb05b121631932877e3"), looks := false }, kinds := [], alts := [], laidByText := true, laidKinds := [.data], laidTests := true, laidLooks := .later }
def PlanKeepsUptoCardSaid : Prop := Claim7.holds Tryz.pinned (.plain (OpenSpec.upto planKeepsSpec)) planKeepsUptoCard

/-- THE SECOND FORM's CARD OF 'earshotlaw22.PlanApart'. -/
def planApartUptoCard : Claim7 := { stood := { row := planApartUptoRow, standIns := [], harness := (true, "e8516d44fa406f9624674b5fc4bc46ed197ea5d2413a9bb05b121631932877e3"), looks := false }, kinds := [], alts := [], laidByText := true, laidKinds := [.data], laidTests := true, laidLooks := .later }
def PlanApartUptoCardSaid : Prop := Claim7.holds Tryz.pinned (.plain (OpenSpec.upto planApartSpec)) planApartUptoCard

/-- THE SECOND FORM's CARD OF 'earshotlaw22.PlanTotal'. -/
def planTotalUptoCard : Claim7 := { stood := { row := planTotalUptoRow, standIns := [], harness := (true, "e8516d44fa406f9624674b5fc4bc46ed197ea5d2413a9bb05b121631932877e3"), looks := false }, kinds := [], alts := [], laidByText := true, laidKinds := [.data], laidTests := true, laidLooks := .later }
def PlanTotalUptoCardSaid : Prop := Claim7.holds Tryz.pinned (.plain (OpenSpec.upto planTotalSpec)) planTotalUptoCard

/-- THE SECOND FORM's CARD OF 'earshotlaw22.PlanRight'. -/
def planRightUptoCard : Claim7 := { stood := { row := planRightUptoRow, standIns := [], harness := (true, "e8516d44fa406f9624674b5fc4bc46ed197ea5d2413a9bb05b121631932877e3"), looks := false }, kinds := [], alts := [], laidByText := true, laidKinds := [.data], laidTests := true, laidLooks := .later }
def PlanRightUptoCardSaid : Prop := Claim7.holds Tryz.pinned (.plain (OpenSpec.upto planRightSpec)) planRightUptoCard
end Rows
end Go.Proofs.YtdhpmegbmjoekaaGreatDoor
