/-
  DERIVED. GIVEN WITH THE SEED: THE CARDS: each row of YtffifhinhemkdaaDoorRows.lean that lists a variable, with what it lists TIED to the program's text (the seventh form; the later family's looks); each row that meets fmt, with fmt's text TOLD by the authors' own Lean function (tested against real Go, not proved from fmt's source: count such statements apart). THE CARD IS WHAT COUNTS. Prove the row's statement (the work); the ties are given (YtffifhinhemkdaaDoorTie.lean); close each card by the builder's one call (the guide's Derived/Test/ToyasCard.lean, 'card_holds'). Laid BY PROGRAM, IN A SANDBOX (cutbox-door.mjs). By AI agents, Wed Nov 11 2026. No macro, syntax, notation, axiom, sorry.
-/
import Derived.Test.YtffifhinhemkdaaDoorRows
import GoSem.ClaimSeven
namespace Go.Proofs.YtffifhinhemkdaaDoor
namespace Rows

/-- THE TIED CARD OF 'portolanlaw04.RawgraphNames'. -/
def rawgraphNamesCard : Claim7 := { stood := { row := rawgraphNamesRow, standIns := [], harness := (true, "c5268339c9cf42fc0ff146322a57917d3fa190c9a3782ae8904d8f42a3ac9447"), looks := false }, kinds := [], alts := [], laidByText := true, laidKinds := [.data, .pinned], laidTests := true, laidLooks := .later }
def RawgraphNamesCardSaid : Prop := Claim7.holds Tryd.pinned (.plain (OpenSpec.ofChange rawgraphNamesSpec)) rawgraphNamesCard

/-- THE TIED CARD OF 'portolanlaw04.RawgraphChecks'. -/
def rawgraphChecksCard : Claim7 := { stood := { row := rawgraphChecksRow, standIns := [], harness := (true, "c5268339c9cf42fc0ff146322a57917d3fa190c9a3782ae8904d8f42a3ac9447"), looks := false }, kinds := [], alts := [], laidByText := true, laidKinds := [.data, .pinned], laidTests := true, laidLooks := .later }
def RawgraphChecksCardSaid : Prop := Claim7.holds Tryd.pinned (.plain (OpenSpec.ofChange rawgraphChecksSpec)) rawgraphChecksCard

/-- THE SECOND FORM's CARD OF 'portolanlaw04.RawgraphNames'. -/
def rawgraphNamesUptoCard : Claim7 := { stood := { row := rawgraphNamesUptoRow, standIns := [], harness := (true, "c5268339c9cf42fc0ff146322a57917d3fa190c9a3782ae8904d8f42a3ac9447"), looks := false }, kinds := [], alts := [], laidByText := true, laidKinds := [.data, .pinned], laidTests := true, laidLooks := .later }
def RawgraphNamesUptoCardSaid : Prop := Claim7.holds Tryd.pinned (.plain (OpenSpec.upto rawgraphNamesSpec)) rawgraphNamesUptoCard

/-- THE SECOND FORM's CARD OF 'portolanlaw04.RawgraphChecks'. -/
def rawgraphChecksUptoCard : Claim7 := { stood := { row := rawgraphChecksUptoRow, standIns := [], harness := (true, "c5268339c9cf42fc0ff146322a57917d3fa190c9a3782ae8904d8f42a3ac9447"), looks := false }, kinds := [], alts := [], laidByText := true, laidKinds := [.data, .pinned], laidTests := true, laidLooks := .later }
def RawgraphChecksUptoCardSaid : Prop := Claim7.holds Tryd.pinned (.plain (OpenSpec.upto rawgraphChecksSpec)) rawgraphChecksUptoCard
end Rows
end Go.Proofs.YtffifhinhemkdaaDoor
