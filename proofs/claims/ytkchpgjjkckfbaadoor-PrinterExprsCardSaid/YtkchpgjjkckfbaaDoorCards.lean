/-
  DERIVED. GIVEN WITH THE SEED: THE CARDS: each row of YtkchpgjjkckfbaaDoorRows.lean that lists a variable, with what it lists TIED to the program's text (the seventh form; the later family's looks); each row that meets fmt, with fmt's text TOLD by the authors' own Lean function (tested against real Go, not proved from fmt's source: count such statements apart). THE CARD IS WHAT COUNTS. Prove the row's statement (the work); the ties are given (YtkchpgjjkckfbaaDoorTie.lean); close each card by the builder's one call (the guide's Derived/Test/ToyasCard.lean, 'card_holds'). Laid BY PROGRAM, IN A SANDBOX (cutbox-door.mjs). By AI agents, Wed Nov 11 2026. No macro, syntax, notation, axiom, sorry.
-/
import Derived.Test.YtkchpgjjkckfbaaDoorRows
import GoSem.ClaimSeven
namespace Go.Proofs.YtkchpgjjkckfbaaDoor
namespace Rows

/-- THE TIED CARD OF 'portolanlaw09.PrinterExprs'. -/
def printerExprsCard : Claim7 := { stood := { row := printerExprsRow, standIns := [], harness := (true, "e0070ecede0cb041053e5f231e8dcf8e5c297f3b02eb395a33493d43aad2545c"), looks := true }, kinds := [], alts := [], laidByText := true, laidKinds := [.data, .data, .data, .data, .widerDeep, .pinned], laidTests := true, laidLooks := .later }
def PrinterExprsCardSaid : Prop := Claim7.holds Tryd.pinned (.plain (OpenSpec.ofChange printerExprsSpec)) printerExprsCard

/-- THE TIED CARD OF 'portolanlaw09.PrinterWrites'. -/
def printerWritesCard : Claim7 := { stood := { row := printerWritesRow, standIns := [], harness := (true, "e0070ecede0cb041053e5f231e8dcf8e5c297f3b02eb395a33493d43aad2545c"), looks := true }, kinds := [], alts := [], laidByText := true, laidKinds := [.data, .data, .data, .data, .widerDeep, .pinned], laidTests := true, laidLooks := .later }
def PrinterWritesCardSaid : Prop := Claim7.holds Tryd.pinned (.plain (OpenSpec.ofChange printerWritesSpec)) printerWritesCard

/-- THE TIED CARD OF 'portolanlaw09.PrinterPairs'. -/
def printerPairsCard : Claim7 := { stood := { row := printerPairsRow, standIns := [], harness := (true, "e0070ecede0cb041053e5f231e8dcf8e5c297f3b02eb395a33493d43aad2545c"), looks := true }, kinds := [], alts := [], laidByText := true, laidKinds := [.data, .data, .data, .data, .widerDeep, .pinned], laidTests := true, laidLooks := .later }
def PrinterPairsCardSaid : Prop := Claim7.holds Tryd.pinned (.plain (OpenSpec.ofChange printerPairsSpec)) printerPairsCard

/-- THE SECOND FORM's CARD OF 'portolanlaw09.PrinterExprs'. -/
def printerExprsUptoCard : Claim7 := { stood := { row := printerExprsUptoRow, standIns := [], harness := (true, "e0070ecede0cb041053e5f231e8dcf8e5c297f3b02eb395a33493d43aad2545c"), looks := true }, kinds := [], alts := [], laidByText := true, laidKinds := [.data, .data, .data, .data, .widerDeep, .pinned], laidTests := true, laidLooks := .later }
def PrinterExprsUptoCardSaid : Prop := Claim7.holds Tryd.pinned (.plain (OpenSpec.upto printerExprsSpec)) printerExprsUptoCard

/-- THE SECOND FORM's CARD OF 'portolanlaw09.PrinterWrites'. -/
def printerWritesUptoCard : Claim7 := { stood := { row := printerWritesUptoRow, standIns := [], harness := (true, "e0070ecede0cb041053e5f231e8dcf8e5c297f3b02eb395a33493d43aad2545c"), looks := true }, kinds := [], alts := [], laidByText := true, laidKinds := [.data, .data, .data, .data, .widerDeep, .pinned], laidTests := true, laidLooks := .later }
def PrinterWritesUptoCardSaid : Prop := Claim7.holds Tryd.pinned (.plain (OpenSpec.upto printerWritesSpec)) printerWritesUptoCard

/-- THE SECOND FORM's CARD OF 'portolanlaw09.PrinterPairs'. -/
def printerPairsUptoCard : Claim7 := { stood := { row := printerPairsUptoRow, standIns := [], harness := (true, "e0070ecede0cb041053e5f231e8dcf8e5c297f3b02eb395a33493d43aad2545c"), looks := true }, kinds := [], alts := [], laidByText := true, laidKinds := [.data, .data, .data, .data, .widerDeep, .pinned], laidTests := true, laidLooks := .later }
def PrinterPairsUptoCardSaid : Prop := Claim7.holds Tryd.pinned (.plain (OpenSpec.upto printerPairsSpec)) printerPairsUptoCard
end Rows
end Go.Proofs.YtkchpgjjkckfbaaDoor
