/-
  DERIVED. GIVEN WITH THE SEED: THE CARDS: each row of YtokhbjagcnjiaaaDoorRows.lean that lists a variable, with what it lists TIED to the program's text (the seventh form; the later family's looks); each row that meets fmt, with fmt's text TOLD by the authors' own Lean function (tested against real Go, not proved from fmt's source: count such statements apart). THE CARD IS WHAT COUNTS. Prove the row's statement (the work); the ties are given (YtokhbjagcnjiaaaDoorTie.lean); close each card by the builder's one call (the guide's Derived/Test/ToyasCard.lean, 'card_holds'). Laid BY PROGRAM, IN A SANDBOX (cutbox-door.mjs). By AI agents, Wed Nov 11 2026. No macro, syntax, notation, axiom, sorry.
-/
import Derived.Test.YtokhbjagcnjiaaaDoorRows
import GoSem.ClaimSeven
namespace Go.Proofs.YtokhbjagcnjiaaaDoor
namespace Rows

/-- THE TIED CARD OF 'portolanlaw07.LexMoves'. -/
def lexMovesCard : Claim7 := { stood := { row := lexMovesRow, standIns := [], harness := (true, "ed26db90d122fa51ea0f843df811e88b47fe93cf561c41b40d98608b8e4886eb"), looks := false }, kinds := [], alts := [], laidByText := true, laidKinds := [.data, .widerDeep, .pinned], laidTests := true, laidLooks := .later }
def LexMovesCardSaid : Prop := Claim7.holds Tryd.pinned (.plain (OpenSpec.ofChange lexMovesSpec)) lexMovesCard

/-- THE TIED CARD OF 'portolanlaw07.LexLetters'. -/
def lexLettersCard : Claim7 := { stood := { row := lexLettersRow, standIns := [], harness := (true, "ed26db90d122fa51ea0f843df811e88b47fe93cf561c41b40d98608b8e4886eb"), looks := false }, kinds := [], alts := [], laidByText := true, laidKinds := [.data, .widerDeep, .pinned], laidTests := true, laidLooks := .later }
def LexLettersCardSaid : Prop := Claim7.holds Tryd.pinned (.plain (OpenSpec.ofChange lexLettersSpec)) lexLettersCard

/-- THE TIED CARD OF 'portolanlaw07.LexKeys'. -/
def lexKeysCard : Claim7 := { stood := { row := lexKeysRow, standIns := [], harness := (true, "ed26db90d122fa51ea0f843df811e88b47fe93cf561c41b40d98608b8e4886eb"), looks := false }, kinds := [], alts := [], laidByText := true, laidKinds := [.data, .widerDeep, .pinned], laidTests := true, laidLooks := .later }
def LexKeysCardSaid : Prop := Claim7.holds Tryd.pinned (.plain (OpenSpec.ofChange lexKeysSpec)) lexKeysCard

/-- THE TIED CARD OF 'portolanlaw07.LexWords'. -/
def lexWordsCard : Claim7 := { stood := { row := lexWordsRow, standIns := [], harness := (true, "ed26db90d122fa51ea0f843df811e88b47fe93cf561c41b40d98608b8e4886eb"), looks := false }, kinds := [], alts := [], laidByText := true, laidKinds := [.data, .widerDeep, .pinned], laidTests := true, laidLooks := .later }
def LexWordsCardSaid : Prop := Claim7.holds Tryd.pinned (.plain (OpenSpec.ofChange lexWordsSpec)) lexWordsCard

/-- THE TIED CARD OF 'portolanlaw07.LexTexts'. -/
def lexTextsCard : Claim7 := { stood := { row := lexTextsRow, standIns := [], harness := (true, "ed26db90d122fa51ea0f843df811e88b47fe93cf561c41b40d98608b8e4886eb"), looks := false }, kinds := [], alts := [], laidByText := true, laidKinds := [.data, .widerDeep, .pinned], laidTests := true, laidLooks := .later }
def LexTextsCardSaid : Prop := Claim7.holds Tryd.pinned (.plain (OpenSpec.ofChange lexTextsSpec)) lexTextsCard

/-- THE TIED CARD OF 'portolanlaw07.LexNumbers'. -/
def lexNumbersCard : Claim7 := { stood := { row := lexNumbersRow, standIns := [], harness := (true, "ed26db90d122fa51ea0f843df811e88b47fe93cf561c41b40d98608b8e4886eb"), looks := false }, kinds := [], alts := [], laidByText := true, laidKinds := [.data, .data, .data, .data, .widerDeep, .pinned], laidTests := true, laidLooks := .later }
def LexNumbersCardSaid : Prop := Claim7.holds Tryd.pinned (.plain (OpenSpec.ofChange lexNumbersSpec)) lexNumbersCard

/-- THE SECOND FORM's CARD OF 'portolanlaw07.LexMoves'. -/
def lexMovesUptoCard : Claim7 := { stood := { row := lexMovesUptoRow, standIns := [], harness := (true, "ed26db90d122fa51ea0f843df811e88b47fe93cf561c41b40d98608b8e4886eb"), looks := false }, kinds := [], alts := [], laidByText := true, laidKinds := [.data, .widerDeep, .pinned], laidTests := true, laidLooks := .later }
def LexMovesUptoCardSaid : Prop := Claim7.holds Tryd.pinned (.plain (OpenSpec.upto lexMovesSpec)) lexMovesUptoCard

/-- THE SECOND FORM's CARD OF 'portolanlaw07.LexLetters'. -/
def lexLettersUptoCard : Claim7 := { stood := { row := lexLettersUptoRow, standIns := [], harness := (true, "ed26db90d122fa51ea0f843df811e88b47fe93cf561c41b40d98608b8e4886eb"), looks := false }, kinds := [], alts := [], laidByText := true, laidKinds := [.data, .widerDeep, .pinned], laidTests := true, laidLooks := .later }
def LexLettersUptoCardSaid : Prop := Claim7.holds Tryd.pinned (.plain (OpenSpec.upto lexLettersSpec)) lexLettersUptoCard

/-- THE SECOND FORM's CARD OF 'portolanlaw07.LexKeys'. -/
def lexKeysUptoCard : Claim7 := { stood := { row := lexKeysUptoRow, standIns := [], harness := (true, "ed26db90d122fa51ea0f843df811e88b47fe93cf561c41b40d98608b8e4886eb"), looks := false }, kinds := [], alts := [], laidByText := true, laidKinds := [.data, .widerDeep, .pinned], laidTests := true, laidLooks := .later }
def LexKeysUptoCardSaid : Prop := Claim7.holds Tryd.pinned (.plain (OpenSpec.upto lexKeysSpec)) lexKeysUptoCard

/-- THE SECOND FORM's CARD OF 'portolanlaw07.LexWords'. -/
def lexWordsUptoCard : Claim7 := { stood := { row := lexWordsUptoRow, standIns := [], harness := (true, "ed26db90d122fa51ea0f843df811e88b47fe93cf561c41b40d98608b8e4886eb"), looks := false }, kinds := [], alts := [], laidByText := true, laidKinds := [.data, .widerDeep, .pinned], laidTests := true, laidLooks := .later }
def LexWordsUptoCardSaid : Prop := Claim7.holds Tryd.pinned (.plain (OpenSpec.upto lexWordsSpec)) lexWordsUptoCard

/-- THE SECOND FORM's CARD OF 'portolanlaw07.LexTexts'. -/
def lexTextsUptoCard : Claim7 := { stood := { row := lexTextsUptoRow, standIns := [], harness := (true, "ed26db90d122fa51ea0f843df811e88b47fe93cf561c41b40d98608b8e4886eb"), looks := false }, kinds := [], alts := [], laidByText := true, laidKinds := [.data, .widerDeep, .pinned], laidTests := true, laidLooks := .later }
def LexTextsUptoCardSaid : Prop := Claim7.holds Tryd.pinned (.plain (OpenSpec.upto lexTextsSpec)) lexTextsUptoCard

/-- THE SECOND FORM's CARD OF 'portolanlaw07.LexNumbers'. -/
def lexNumbersUptoCard : Claim7 := { stood := { row := lexNumbersUptoRow, standIns := [], harness := (true, "ed26db90d122fa51ea0f843df811e88b47fe93cf561c41b40d98608b8e4886eb"), looks := false }, kinds := [], alts := [], laidByText := true, laidKinds := [.data, .data, .data, .data, .widerDeep, .pinned], laidTests := true, laidLooks := .later }
def LexNumbersUptoCardSaid : Prop := Claim7.holds Tryd.pinned (.plain (OpenSpec.upto lexNumbersSpec)) lexNumbersUptoCard
end Rows
end Go.Proofs.YtokhbjagcnjiaaaDoor
