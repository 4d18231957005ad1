/-
  DERIVED. GIVEN WITH THE SEED: THE CARDS: each row of YtbgplllcjhgdhaaDoorRows.lean that lists a variable, with what it lists TIED to the program's text (the seventh form; the later family's looks); each row that meets fmt, with fmt's text TOLD by the authors' own Lean function (tested against real Go, not proved from fmt's source: count such statements apart). THE CARD IS WHAT COUNTS. Prove the row's statement (the work); the ties are given (YtbgplllcjhgdhaaDoorTie.lean); close each card by the builder's one call (the guide's Derived/Test/ToyasCard.lean, 'card_holds'). Laid BY PROGRAM, IN A SANDBOX (cutbox-door.mjs). By AI agents, Wed Nov 11 2026. No macro, syntax, notation, axiom, sorry.
-/
import Derived.Test.YtbgplllcjhgdhaaDoorRows
import GoSem.ClaimSeven
namespace Go.Proofs.YtbgplllcjhgdhaaDoor
namespace Rows

/-- THE TIED CARD OF 'earshotlaw21.FuseRow'. -/
def fuseRowCard : Claim7 := { stood := { row := fuseRowRow, standIns := [], harness := (true, "e4ca8725233bf7148bb9e392121bf783256a83e783f259a17bc2184b37ed43b9"), looks := false }, kinds := [], alts := [], laidByText := true, laidKinds := [.data], laidTests := true, laidLooks := .later }
def FuseRowCardSaid : Prop := Claim7.holds Tryd.pinned (.plain (OpenSpec.ofChange fuseRowSpec)) fuseRowCard

/-- THE TIED CARD OF 'earshotlaw21.FuseTells'. -/
def fuseTellsCard : Claim7 := { stood := { row := fuseTellsRow, standIns := [], harness := (true, "e4ca8725233bf7148bb9e392121bf783256a83e783f259a17bc2184b37ed43b9"), looks := false }, kinds := [], alts := [], laidByText := true, laidKinds := [.data], laidTests := true, laidLooks := .later }
def FuseTellsCardSaid : Prop := Claim7.holds Tryd.pinned (.plain (OpenSpec.ofChange fuseTellsSpec)) fuseTellsCard

/-- THE TIED CARD OF 'earshotlaw21.FuseGood'. -/
def fuseGoodCard : Claim7 := { stood := { row := fuseGoodRow, standIns := [], harness := (true, "e4ca8725233bf7148bb9e392121bf783256a83e783f259a17bc2184b37ed43b9"), looks := false }, kinds := [], alts := [], laidByText := true, laidKinds := [.data], laidTests := true, laidLooks := .later }
def FuseGoodCardSaid : Prop := Claim7.holds Tryd.pinned (.plain (OpenSpec.ofChange fuseGoodSpec)) fuseGoodCard

/-- THE TIED CARD OF 'earshotlaw21.FuseLive'. -/
def fuseLiveCard : Claim7 := { stood := { row := fuseLiveRow, standIns := [], harness := (true, "e4ca8725233bf7148bb9e392121bf783256a83e783f259a17bc2184b37ed43b9"), looks := false }, kinds := [], alts := [], laidByText := true, laidKinds := [.data], laidTests := true, laidLooks := .later }
def FuseLiveCardSaid : Prop := Claim7.holds Tryd.pinned (.plain (OpenSpec.ofChange fuseLiveSpec)) fuseLiveCard

/-- THE SECOND FORM's CARD OF 'earshotlaw21.FuseRow'. -/
def fuseRowUptoCard : Claim7 := { stood := { row := fuseRowUptoRow, standIns := [], harness := (true, "e4ca8725233bf7148bb9e392121bf783256a83e783f259a17bc2184b37ed43b9"), looks := false }, kinds := [], alts := [], laidByText := true, laidKinds := [.data], laidTests := true, laidLooks := .later }
def FuseRowUptoCardSaid : Prop := Claim7.holds Tryd.pinned (.plain (OpenSpec.upto fuseRowSpec)) fuseRowUptoCard

/-- THE SECOND FORM's CARD OF 'earshotlaw21.FuseTells'. -/
def fuseTellsUptoCard : Claim7 := { stood := { row := fuseTellsUptoRow, standIns := [], harness := (true, "e4ca8725233bf7148bb9e392121bf783256a83e783f259a17bc2184b37ed43b9"), looks := false }, kinds := [], alts := [], laidByText := true, laidKinds := [.data], laidTests := true, laidLooks := .later }
def FuseTellsUptoCardSaid : Prop := Claim7.holds Tryd.pinned (.plain (OpenSpec.upto fuseTellsSpec)) fuseTellsUptoCard

/-- THE SECOND FORM's CARD OF 'earshotlaw21.FuseGood'. -/
def fuseGoodUptoCard : Claim7 := { stood := { row := fuseGoodUptoRow, standIns := [], harness := (true, "e4ca8725233bf7148bb9e392121bf783256a83e783f259a17bc2184b37ed43b9"), looks := false }, kinds := [], alts := [], laidByText := true, laidKinds := [.data], laidTests := true, laidLooks := .later }
def FuseGoodUptoCardSaid : Prop := Claim7.holds Tryd.pinned (.plain (OpenSpec.upto fuseGoodSpec)) fuseGoodUptoCard

/-- THE SECOND FORM's CARD OF 'earshotlaw21.FuseLive'. -/
def fuseLiveUptoCard : Claim7 := { stood := { row := fuseLiveUptoRow, standIns := [], harness := (true, "e4ca8725233bf7148bb9e392121bf783256a83e783f259a17bc2184b37ed43b9"), looks := false }, kinds := [], alts := [], laidByText := true, laidKinds := [.data], laidTests := true, laidLooks := .later }
def FuseLiveUptoCardSaid : Prop := Claim7.holds Tryd.pinned (.plain (OpenSpec.upto fuseLiveSpec)) fuseLiveUptoCard
end Rows
end Go.Proofs.YtbgplllcjhgdhaaDoor
