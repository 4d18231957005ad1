/-
  DERIVED. GIVEN WITH THE SEED: THE CARDS: each row of YtbgplllcjhgdhaaGreatDoorRows.lean that lists a variable, with what it lists TIED to the program's text (the seventh form; the later family's looks); each row that meets fmt, with fmt's text TOLD by the authors' own Lean function (tested against real Go, not proved from fmt's source: count such statements apart). THE CARD IS WHAT COUNTS. Prove the row's statement (the work); the ties are given (YtbgplllcjhgdhaaGreatDoorTie.lean); close each card by the builder's one call (the guide's Derived/Test/ToyasCard.lean, 'card_holds'). Laid BY PROGRAM, IN A SANDBOX (cutbox-door.mjs). By AI agents, Wed Nov 11 2026. No macro, syntax, notation, axiom, sorry.
-/
import Derived.Test.YtbgplllcjhgdhaaGreatDoorRows
import GoSem.ClaimSeven
namespace Go.Proofs.YtbgplllcjhgdhaaGreatDoor
namespace Rows

/-- THE TIED CARD OF 'earshotlaw21.FuseKeeps'. -/
def fuseKeepsCard : Claim7 := { stood := { row := fuseKeepsRow, standIns := [], harness := (true, "0e4a3e9b5bcac58bc4f0e298120f36bd4166ff3150a6965fa1fa149bd6a10a2e"), looks := false }, kinds := [], alts := [], laidByText := true, laidKinds := [.data], laidTests := true, laidLooks := .later }
def FuseKeepsCardSaid : Prop := Claim7.holds Tryz.pinned (.plain (OpenSpec.ofChange fuseKeepsSpec)) fuseKeepsCard

/-- THE SECOND FORM's CARD OF 'earshotlaw21.FuseKeeps'. -/
def fuseKeepsUptoCard : Claim7 := { stood := { row := fuseKeepsUptoRow, standIns := [], harness := (true, "0e4a3e9b5bcac58bc4f0e298120f36bd4166ff3150a6965fa1fa149bd6a10a2e"), looks := false }, kinds := [], alts := [], laidByText := true, laidKinds := [.data], laidTests := true, laidLooks := .later }
def FuseKeepsUptoCardSaid : Prop := Claim7.holds Tryz.pinned (.plain (OpenSpec.upto fuseKeepsSpec)) fuseKeepsUptoCard
end Rows
end Go.Proofs.YtbgplllcjhgdhaaGreatDoor
