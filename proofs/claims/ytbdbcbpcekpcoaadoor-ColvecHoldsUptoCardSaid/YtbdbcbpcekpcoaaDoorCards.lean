/-
  DERIVED. GIVEN WITH THE SEED: THE CARDS: each row of YtbdbcbpcekpcoaaDoorRows.lean that lists a variable, with what it lists TIED to the program's text (the seventh form; the later family's looks); each row that meets fmt, with fmt's text TOLD by the authors' own Lean function (tested against real Go, not proved from fmt's source: count such statements apart). THE CARD IS WHAT COUNTS. Prove the row's statement (the work); the ties are given (YtbdbcbpcekpcoaaDoorTie.lean); close each card by the builder's one call (the guide's Derived/Test/ToyasCard.lean, 'card_holds'). Laid BY PROGRAM, IN A SANDBOX (cutbox-door.mjs). By AI agents, Wed Nov 11 2026. No macro, syntax, notation, axiom, sorry.
-/
import Derived.Test.YtbdbcbpcekpcoaaDoorRows
import GoSem.ClaimSeven
namespace Go.Proofs.YtbdbcbpcekpcoaaDoor
namespace Rows

/-- THE TIED CARD OF 'portolanlaw03.ColvecHolds'. -/
def colvecHoldsCard : Claim7 := { stood := { row := colvecHoldsRow, standIns := [], harness := (true, "79ee1b85cd9103ebcb1d2888afba1ac08648ab9ecfd7f3a3097d0a989ccea0c4"), looks := false }, kinds := [], alts := [], laidByText := true, laidKinds := [.data, .pinned], laidTests := true, laidLooks := .later }
def ColvecHoldsCardSaid : Prop := Claim7.holds Tryd.pinned (.plain (OpenSpec.ofChange colvecHoldsSpec)) colvecHoldsCard

/-- THE TIED CARD OF 'portolanlaw03.ColvecGathers'. -/
def colvecGathersCard : Claim7 := { stood := { row := colvecGathersRow, standIns := [], harness := (true, "79ee1b85cd9103ebcb1d2888afba1ac08648ab9ecfd7f3a3097d0a989ccea0c4"), looks := false }, kinds := [], alts := [], laidByText := true, laidKinds := [.data, .pinned], laidTests := true, laidLooks := .later }
def ColvecGathersCardSaid : Prop := Claim7.holds Tryd.pinned (.plain (OpenSpec.ofChange colvecGathersSpec)) colvecGathersCard

/-- THE SECOND FORM's CARD OF 'portolanlaw03.ColvecHolds'. -/
def colvecHoldsUptoCard : Claim7 := { stood := { row := colvecHoldsUptoRow, standIns := [], harness := (true, "79ee1b85cd9103ebcb1d2888afba1ac08648ab9ecfd7f3a3097d0a989ccea0c4"), looks := false }, kinds := [], alts := [], laidByText := true, laidKinds := [.data, .pinned], laidTests := true, laidLooks := .later }
def ColvecHoldsUptoCardSaid : Prop := Claim7.holds Tryd.pinned (.plain (OpenSpec.upto colvecHoldsSpec)) colvecHoldsUptoCard

/-- THE SECOND FORM's CARD OF 'portolanlaw03.ColvecGathers'. -/
def colvecGathersUptoCard : Claim7 := { stood := { row := colvecGathersUptoRow, standIns := [], harness := (true, "79ee1b85cd9103ebcb1d2888afba1ac08648ab9ecfd7f3a3097d0a989ccea0c4"), looks := false }, kinds := [], alts := [], laidByText := true, laidKinds := [.data, .pinned], laidTests := true, laidLooks := .later }
def ColvecGathersUptoCardSaid : Prop := Claim7.holds Tryd.pinned (.plain (OpenSpec.upto colvecGathersSpec)) colvecGathersUptoCard
end Rows
end Go.Proofs.YtbdbcbpcekpcoaaDoor
