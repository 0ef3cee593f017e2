/-
  NARROWER THAN 'FOR EVERY INPUT', by the rows' own cells (each row's printed sentence says how): LexMoves: laid · LexLetters: laid · LexKeys: laid · LexWords: laid · LexTexts: laid · LexNumbers: laid.
  DERIVED. THE GIVEN ROWS OF THIS SEAT. 6 by the template 'for every input the law returns true; each argument reads behind the call as it read before'; 0 by the template 'total and deterministic' (their statements: YtokhbjagcnjiaaaDoorTotals.lean).
  GIVEN WITH THE SEED: the statements are not yours to turn. If you find one false, say at which input.
  Laid BY PROGRAM, IN A SANDBOX (cutbox-rows.mjs): the forced cells as the released guide's own fill.sh prints them over the translation b93d0defe7219c19… (all of the seat's roots in one cut). By AI agents, Wed Nov 11 2026. No macro, syntax, notation, axiom, sorry.
-/
import Derived.Test.YtokhbjagcnjiaaaDoorChecked
import GoSem.PinnedTables
import GoSem.Claim
import GoSem.ClaimJoined
import GoSem.ClaimMapViews
import Derived.JoinedTies
import Derived.KernelRfl
namespace Go.Proofs.YtokhbjagcnjiaaaDoor
/- THE CELL 'sum', in the pinned program and in every row, IS THE sha256 OF THE DUMP (.gsa) THAT YtokhbjagcnjiaaaDoorProg.lean LOADS. Nothing in Lean hashes anything: it is a label: what it is worth is what the hold of that sum in a sandbox is worth. -/
noncomputable def Tryd.pinned : Pinned := { name := "ytokhbjagcnjiaaadoor", sum := "b93d0defe7219c195d29cd1ac2f10ea13aabf4e285050bb8e9521a863295c1b4", checked := Tryd.checked }
namespace Rows
def none {H : Type} : Left H := { results := [], args := [] }

/- WHAT THE LISTED PACKAGE-LEVEL VARIABLES READ AS WHEN THE CALL BEGINS. Each datum BY PROGRAM (the guide's laid-datum.mjs) off the statement by which the dump's own 'gosem.cut.vars' lays the variable. In a bare row this is a premise. The card (YtokhbjagcnjiaaaDoorCards.lean) ties it to the program's text. -/
def laid_unicode_utf8_acceptRanges {H : Type} : DataW H := .agg [.agg [.lit (.int .u8 128), .lit (.int .u8 191)], .agg [.lit (.int .u8 160), .lit (.int .u8 191)], .agg [.lit (.int .u8 128), .lit (.int .u8 159)], .agg [.lit (.int .u8 144), .lit (.int .u8 191)], .agg [.lit (.int .u8 128), .lit (.int .u8 143)], .agg [.lit (.int .u8 0), .lit (.int .u8 0)], .agg [.lit (.int .u8 0), .lit (.int .u8 0)], .agg [.lit (.int .u8 0), .lit (.int .u8 0)], .agg [.lit (.int .u8 0), .lit (.int .u8 0)], .agg [.lit (.int .u8 0), .lit (.int .u8 0)], .agg [.lit (.int .u8 0), .lit (.int .u8 0)], .agg [.lit (.int .u8 0), .lit (.int .u8 0)], .agg [.lit (.int .u8 0), .lit (.int .u8 0)], .agg [.lit (.int .u8 0), .lit (.int .u8 0)], .agg [.lit (.int .u8 0), .lit (.int .u8 0)], .agg [.lit (.int .u8 0), .lit (.int .u8 0)]]
def laid_portolan_lex_keys {H : Type} : DataW H := .agg [.lit (.string [77, 65, 84, 67, 72]), .lit (.string [87, 72, 69, 82, 69]), .lit (.string [82, 69, 84, 85, 82, 78]), .lit (.string [68, 73, 83, 84, 73, 78, 67, 84]), .lit (.string [79, 82, 68, 69, 82]), .lit (.string [66, 89]), .lit (.string [65, 83, 67]), .lit (.string [68, 69, 83, 67]), .lit (.string [76, 73, 77, 73, 84]), .lit (.string [65, 83]), .lit (.string [65, 78, 68]), .lit (.string [79, 82]), .lit (.string [78, 79, 84]), .lit (.string [73, 83]), .lit (.string [78, 85, 76, 76]), .lit (.string [84, 82, 85, 69]), .lit (.string [70, 65, 76, 83, 69]), .lit (.string [83, 72, 79, 82, 84, 69, 83, 84]), .lit (.string [76, 69, 78, 71, 84, 72]), .lit (.string [67, 79, 85, 78, 84]), .lit (.string [83, 85, 77]), .lit (.string [77, 73, 78]), .lit (.string [77, 65, 88])]
/-- One of Go's own tables, pinned by name: the form's constant. -/
def laid_unicode_utf8_first : DataW Unit := Go.Pinned.utf8First
def laid_math_bits_deBruijn32tab {H : Type} : DataW H := .agg [.lit (.int .u8 0), .lit (.int .u8 1), .lit (.int .u8 28), .lit (.int .u8 2), .lit (.int .u8 29), .lit (.int .u8 14), .lit (.int .u8 24), .lit (.int .u8 3), .lit (.int .u8 30), .lit (.int .u8 22), .lit (.int .u8 20), .lit (.int .u8 15), .lit (.int .u8 25), .lit (.int .u8 17), .lit (.int .u8 4), .lit (.int .u8 8), .lit (.int .u8 31), .lit (.int .u8 27), .lit (.int .u8 13), .lit (.int .u8 23), .lit (.int .u8 21), .lit (.int .u8 19), .lit (.int .u8 16), .lit (.int .u8 7), .lit (.int .u8 26), .lit (.int .u8 12), .lit (.int .u8 18), .lit (.int .u8 6), .lit (.int .u8 11), .lit (.int .u8 5), .lit (.int .u8 10), .lit (.int .u8 9)]
def laid_math_bits_deBruijn64tab {H : Type} : DataW H := .agg [.lit (.int .u8 0), .lit (.int .u8 1), .lit (.int .u8 56), .lit (.int .u8 2), .lit (.int .u8 57), .lit (.int .u8 49), .lit (.int .u8 28), .lit (.int .u8 3), .lit (.int .u8 61), .lit (.int .u8 58), .lit (.int .u8 42), .lit (.int .u8 50), .lit (.int .u8 38), .lit (.int .u8 29), .lit (.int .u8 17), .lit (.int .u8 4), .lit (.int .u8 62), .lit (.int .u8 47), .lit (.int .u8 59), .lit (.int .u8 36), .lit (.int .u8 45), .lit (.int .u8 43), .lit (.int .u8 51), .lit (.int .u8 22), .lit (.int .u8 53), .lit (.int .u8 39), .lit (.int .u8 33), .lit (.int .u8 30), .lit (.int .u8 24), .lit (.int .u8 18), .lit (.int .u8 12), .lit (.int .u8 5), .lit (.int .u8 63), .lit (.int .u8 55), .lit (.int .u8 48), .lit (.int .u8 27), .lit (.int .u8 60), .lit (.int .u8 41), .lit (.int .u8 37), .lit (.int .u8 16), .lit (.int .u8 46), .lit (.int .u8 35), .lit (.int .u8 44), .lit (.int .u8 21), .lit (.int .u8 52), .lit (.int .u8 32), .lit (.int .u8 23), .lit (.int .u8 11), .lit (.int .u8 54), .lit (.int .u8 26), .lit (.int .u8 40), .lit (.int .u8 15), .lit (.int .u8 34), .lit (.int .u8 20), .lit (.int .u8 31), .lit (.int .u8 10), .lit (.int .u8 25), .lit (.int .u8 14), .lit (.int .u8 19), .lit (.int .u8 9), .lit (.int .u8 13), .lit (.int .u8 8), .lit (.int .u8 7), .lit (.int .u8 6)]
def laid_internal_strconv_uint64pow10 {H : Type} : DataW H := .agg [.lit (.int .u64 1), .lit (.int .u64 10), .lit (.int .u64 100), .lit (.int .u64 1000), .lit (.int .u64 10000), .lit (.int .u64 100000), .lit (.int .u64 1000000), .lit (.int .u64 10000000), .lit (.int .u64 100000000), .lit (.int .u64 1000000000), .lit (.int .u64 10000000000), .lit (.int .u64 100000000000), .lit (.int .u64 1000000000000), .lit (.int .u64 10000000000000), .lit (.int .u64 100000000000000), .lit (.int .u64 1000000000000000), .lit (.int .u64 10000000000000000), .lit (.int .u64 100000000000000000), .lit (.int .u64 1000000000000000000), .lit (.int .u64 10000000000000000000)]

/-- 'portolanlaw07.LexMoves': WHATEVER THE INPUT: true; the input reads as it did. -/
def lexMovesSpec : ChangeSpec := { name := "lexMoves", fn := fun _ => fun
  | [d1, d2, d3] => { results := [.lit (.bool true)], args := [d1, d2, d3] }
  | _ => none }
def lexMovesRow : OpenClaim := { program := "ytokhbjagcnjiaaadoor", sum := "b93d0defe7219c195d29cd1ac2f10ea13aabf4e285050bb8e9521a863295c1b4", func := "portolan/portolanlaw07.LexMoves", spec := "lexMoves", inPlace := ["internal/abi.NoEscape", "internal/bytealg.IndexByteString"], unfollowed := true, recurses := true, named := ["unicode/utf8.first", "unicode/utf8.acceptRanges", "portolan/lex.keys"], apart := false, laid := [("unicode/utf8.acceptRanges", laid_unicode_utf8_acceptRanges), ("portolan/lex.keys", laid_portolan_lex_keys), ("unicode/utf8.first", laid_unicode_utf8_first)] }
def LexMovesSaid : Prop := lexMovesRow.holds Tryd.pinned (OpenSpec.ofChange lexMovesSpec)

/-- ITS FALSE NEIGHBOUR: 'it returns false'. Refute it at one input. -/
def lexMovesWrong : ChangeSpec := { name := "lexMoves", fn := fun _ => fun
  | [d1, d2, d3] => { results := [.lit (.bool false)], args := [d1, d2, d3] }
  | _ => none }
def LexMovesWrongFalsely : Prop := lexMovesRow.holds Tryd.pinned (OpenSpec.ofChange lexMovesWrong)

/-- 'portolanlaw07.LexLetters': WHATEVER THE INPUT: true; the input reads as it did. -/
def lexLettersSpec : ChangeSpec := { name := "lexLetters", fn := fun _ => fun
  | [d1, d2, d3] => { results := [.lit (.bool true)], args := [d1, d2, d3] }
  | _ => none }
def lexLettersRow : OpenClaim := { program := "ytokhbjagcnjiaaadoor", sum := "b93d0defe7219c195d29cd1ac2f10ea13aabf4e285050bb8e9521a863295c1b4", func := "portolan/portolanlaw07.LexLetters", spec := "lexLetters", inPlace := ["internal/abi.NoEscape", "internal/bytealg.IndexByteString"], unfollowed := true, recurses := true, named := ["unicode/utf8.first", "unicode/utf8.acceptRanges", "portolan/lex.keys"], apart := false, laid := [("unicode/utf8.acceptRanges", laid_unicode_utf8_acceptRanges), ("portolan/lex.keys", laid_portolan_lex_keys), ("unicode/utf8.first", laid_unicode_utf8_first)] }
def LexLettersSaid : Prop := lexLettersRow.holds Tryd.pinned (OpenSpec.ofChange lexLettersSpec)

/-- ITS FALSE NEIGHBOUR: 'it returns false'. Refute it at one input. -/
def lexLettersWrong : ChangeSpec := { name := "lexLetters", fn := fun _ => fun
  | [d1, d2, d3] => { results := [.lit (.bool false)], args := [d1, d2, d3] }
  | _ => none }
def LexLettersWrongFalsely : Prop := lexLettersRow.holds Tryd.pinned (OpenSpec.ofChange lexLettersWrong)

/-- 'portolanlaw07.LexKeys': WHATEVER THE INPUT: true; the input reads as it did. -/
def lexKeysSpec : ChangeSpec := { name := "lexKeys", fn := fun _ => fun
  | [d] => { results := [.lit (.bool true)], args := [d] }
  | _ => none }
def lexKeysRow : OpenClaim := { program := "ytokhbjagcnjiaaadoor", sum := "b93d0defe7219c195d29cd1ac2f10ea13aabf4e285050bb8e9521a863295c1b4", func := "portolan/portolanlaw07.LexKeys", spec := "lexKeys", inPlace := ["internal/abi.NoEscape", "internal/bytealg.IndexByteString"], unfollowed := true, recurses := true, named := ["unicode/utf8.first", "unicode/utf8.acceptRanges", "portolan/lex.keys"], apart := false, laid := [("unicode/utf8.acceptRanges", laid_unicode_utf8_acceptRanges), ("portolan/lex.keys", laid_portolan_lex_keys), ("unicode/utf8.first", laid_unicode_utf8_first)] }
def LexKeysSaid : Prop := lexKeysRow.holds Tryd.pinned (OpenSpec.ofChange lexKeysSpec)

/-- ITS FALSE NEIGHBOUR: 'it returns false'. Refute it at one input. -/
def lexKeysWrong : ChangeSpec := { name := "lexKeys", fn := fun _ => fun
  | [d] => { results := [.lit (.bool false)], args := [d] }
  | _ => none }
def LexKeysWrongFalsely : Prop := lexKeysRow.holds Tryd.pinned (OpenSpec.ofChange lexKeysWrong)

/-- 'portolanlaw07.LexWords': WHATEVER THE INPUT: true; the input reads as it did. -/
def lexWordsSpec : ChangeSpec := { name := "lexWords", fn := fun _ => fun
  | [d] => { results := [.lit (.bool true)], args := [d] }
  | _ => none }
def lexWordsRow : OpenClaim := { program := "ytokhbjagcnjiaaadoor", sum := "b93d0defe7219c195d29cd1ac2f10ea13aabf4e285050bb8e9521a863295c1b4", func := "portolan/portolanlaw07.LexWords", spec := "lexWords", inPlace := ["internal/abi.NoEscape", "internal/bytealg.IndexByteString"], unfollowed := true, recurses := true, named := ["unicode/utf8.first", "unicode/utf8.acceptRanges", "portolan/lex.keys"], apart := false, laid := [("unicode/utf8.acceptRanges", laid_unicode_utf8_acceptRanges), ("portolan/lex.keys", laid_portolan_lex_keys), ("unicode/utf8.first", laid_unicode_utf8_first)] }
def LexWordsSaid : Prop := lexWordsRow.holds Tryd.pinned (OpenSpec.ofChange lexWordsSpec)

/-- ITS FALSE NEIGHBOUR: 'it returns false'. Refute it at one input. -/
def lexWordsWrong : ChangeSpec := { name := "lexWords", fn := fun _ => fun
  | [d] => { results := [.lit (.bool false)], args := [d] }
  | _ => none }
def LexWordsWrongFalsely : Prop := lexWordsRow.holds Tryd.pinned (OpenSpec.ofChange lexWordsWrong)

/-- 'portolanlaw07.LexTexts': WHATEVER THE INPUT: true; the input reads as it did. -/
def lexTextsSpec : ChangeSpec := { name := "lexTexts", fn := fun _ => fun
  | [d] => { results := [.lit (.bool true)], args := [d] }
  | _ => none }
def lexTextsRow : OpenClaim := { program := "ytokhbjagcnjiaaadoor", sum := "b93d0defe7219c195d29cd1ac2f10ea13aabf4e285050bb8e9521a863295c1b4", func := "portolan/portolanlaw07.LexTexts", spec := "lexTexts", inPlace := ["internal/abi.NoEscape", "internal/bytealg.IndexByteString"], unfollowed := true, recurses := true, named := ["unicode/utf8.first", "unicode/utf8.acceptRanges", "portolan/lex.keys"], apart := false, laid := [("unicode/utf8.acceptRanges", laid_unicode_utf8_acceptRanges), ("portolan/lex.keys", laid_portolan_lex_keys), ("unicode/utf8.first", laid_unicode_utf8_first)] }
def LexTextsSaid : Prop := lexTextsRow.holds Tryd.pinned (OpenSpec.ofChange lexTextsSpec)

/-- ITS FALSE NEIGHBOUR: 'it returns false'. Refute it at one input. -/
def lexTextsWrong : ChangeSpec := { name := "lexTexts", fn := fun _ => fun
  | [d] => { results := [.lit (.bool false)], args := [d] }
  | _ => none }
def LexTextsWrongFalsely : Prop := lexTextsRow.holds Tryd.pinned (OpenSpec.ofChange lexTextsWrong)

/-- 'portolanlaw07.LexNumbers': WHATEVER THE INPUT: true; the input reads as it did. -/
def lexNumbersSpec : ChangeSpec := { name := "lexNumbers", fn := fun _ => fun
  | [d1, d2] => { results := [.lit (.bool true)], args := [d1, d2] }
  | _ => none }
def lexNumbersRow : OpenClaim := { program := "ytokhbjagcnjiaaadoor", sum := "b93d0defe7219c195d29cd1ac2f10ea13aabf4e285050bb8e9521a863295c1b4", func := "portolan/portolanlaw07.LexNumbers", spec := "lexNumbers", inPlace := ["internal/abi.NoEscape", "internal/bytealg.IndexByteString"], unfollowed := true, recurses := true, named := ["unicode/utf8.first", "unicode/utf8.acceptRanges", "portolan/lex.keys", "internal/strconv.uint64pow10", "math/bits.deBruijn32tab", "math/bits.deBruijn64tab"], apart := false, laid := [("math/bits.deBruijn32tab", laid_math_bits_deBruijn32tab), ("math/bits.deBruijn64tab", laid_math_bits_deBruijn64tab), ("internal/strconv.uint64pow10", laid_internal_strconv_uint64pow10), ("unicode/utf8.acceptRanges", laid_unicode_utf8_acceptRanges), ("portolan/lex.keys", laid_portolan_lex_keys), ("unicode/utf8.first", laid_unicode_utf8_first)] }
def LexNumbersSaid : Prop := lexNumbersRow.holds Tryd.pinned (OpenSpec.ofChange lexNumbersSpec)

/-- ITS FALSE NEIGHBOUR: 'it returns false'. Refute it at one input. -/
def lexNumbersWrong : ChangeSpec := { name := "lexNumbers", fn := fun _ => fun
  | [d1, d2] => { results := [.lit (.bool false)], args := [d1, d2] }
  | _ => none }
def LexNumbersWrongFalsely : Prop := lexNumbersRow.holds Tryd.pinned (OpenSpec.ofChange lexNumbersWrong)

/- THE SECOND FORM. 'bulk': how many values and letters a reading holds, each counted each time it is reached (what is shared counts as often as it is met; a slice's spare places count too). A statement '..UptoSaid' is the law's where the arguments, and the package variables that the reading takes, are together of bulk at most 1048576: NARROWER than '..Said'. Prove '..Said' where nothing that the law and all that it calls make is longer than what came in: it says more and counts as full. Else prove '..UptoSaid'. A law counts once. -/
mutual
def uptoBulk {H : Type} : DataW H → Nat
  | .lit (.string bytes) => bytes.length + 1
  | .lit _ => 1
  | .nil => 1
  | .ptr d => uptoBulk d + 1
  | .slice elems spare => uptoBulkAll elems + uptoBulkAll spare + 1
  | .agg parts => uptoBulkAll parts + 1
  | .iface _ d => uptoBulk d + 1
  | .map entries => uptoBulkEntries entries + 1
  | .held _ => 1
def uptoBulkAll {H : Type} : List (DataW H) → Nat
  | [] => 0
  | d :: r => uptoBulk d + uptoBulkAll r
def uptoBulkEntries {H : Type} : List (Lit × DataW H) → Nat
  | [] => 0
  | x :: r => uptoBulkEntry x + uptoBulkEntries r
def uptoBulkEntry {H : Type} : Lit × DataW H → Nat
  | (.string bytes, d) => bytes.length + uptoBulk d + 1
  | (_, d) => uptoBulk d + 1
 end
def uptoSmall : (H : Type) → List (DataW H) → Bool := fun _ ds => decide (uptoBulkAll ds ≤ 1048576)
def OpenSpec.upto (s : _root_.Go.ChangeSpec) : _root_.Go.OpenSpec := { _root_.Go.OpenSpec.ofChange s with cond := some uptoSmall }

/-- 'portolanlaw07.LexMoves', WHERE WHAT IT READS IS OF BULK AT MOST 1048576: true; the input reads as it did. -/
def lexMovesUptoRow : OpenClaim := { program := "ytokhbjagcnjiaaadoor", sum := "b93d0defe7219c195d29cd1ac2f10ea13aabf4e285050bb8e9521a863295c1b4", func := "portolan/portolanlaw07.LexMoves", spec := "lexMoves", inPlace := ["internal/abi.NoEscape", "internal/bytealg.IndexByteString"], unfollowed := true, recurses := true, named := ["unicode/utf8.first", "unicode/utf8.acceptRanges", "portolan/lex.keys"], apart := false, laid := [("unicode/utf8.acceptRanges", laid_unicode_utf8_acceptRanges), ("portolan/lex.keys", laid_portolan_lex_keys), ("unicode/utf8.first", laid_unicode_utf8_first)], narrowed := true }
def LexMovesUptoSaid : Prop := lexMovesUptoRow.holds Tryd.pinned (OpenSpec.upto lexMovesSpec)

/-- 'portolanlaw07.LexLetters', WHERE WHAT IT READS IS OF BULK AT MOST 1048576: true; the input reads as it did. -/
def lexLettersUptoRow : OpenClaim := { program := "ytokhbjagcnjiaaadoor", sum := "b93d0defe7219c195d29cd1ac2f10ea13aabf4e285050bb8e9521a863295c1b4", func := "portolan/portolanlaw07.LexLetters", spec := "lexLetters", inPlace := ["internal/abi.NoEscape", "internal/bytealg.IndexByteString"], unfollowed := true, recurses := true, named := ["unicode/utf8.first", "unicode/utf8.acceptRanges", "portolan/lex.keys"], apart := false, laid := [("unicode/utf8.acceptRanges", laid_unicode_utf8_acceptRanges), ("portolan/lex.keys", laid_portolan_lex_keys), ("unicode/utf8.first", laid_unicode_utf8_first)], narrowed := true }
def LexLettersUptoSaid : Prop := lexLettersUptoRow.holds Tryd.pinned (OpenSpec.upto lexLettersSpec)

/-- 'portolanlaw07.LexKeys', WHERE WHAT IT READS IS OF BULK AT MOST 1048576: true; the input reads as it did. -/
def lexKeysUptoRow : OpenClaim := { program := "ytokhbjagcnjiaaadoor", sum := "b93d0defe7219c195d29cd1ac2f10ea13aabf4e285050bb8e9521a863295c1b4", func := "portolan/portolanlaw07.LexKeys", spec := "lexKeys", inPlace := ["internal/abi.NoEscape", "internal/bytealg.IndexByteString"], unfollowed := true, recurses := true, named := ["unicode/utf8.first", "unicode/utf8.acceptRanges", "portolan/lex.keys"], apart := false, laid := [("unicode/utf8.acceptRanges", laid_unicode_utf8_acceptRanges), ("portolan/lex.keys", laid_portolan_lex_keys), ("unicode/utf8.first", laid_unicode_utf8_first)], narrowed := true }
def LexKeysUptoSaid : Prop := lexKeysUptoRow.holds Tryd.pinned (OpenSpec.upto lexKeysSpec)

/-- 'portolanlaw07.LexWords', WHERE WHAT IT READS IS OF BULK AT MOST 1048576: true; the input reads as it did. -/
def lexWordsUptoRow : OpenClaim := { program := "ytokhbjagcnjiaaadoor", sum := "b93d0defe7219c195d29cd1ac2f10ea13aabf4e285050bb8e9521a863295c1b4", func := "portolan/portolanlaw07.LexWords", spec := "lexWords", inPlace := ["internal/abi.NoEscape", "internal/bytealg.IndexByteString"], unfollowed := true, recurses := true, named := ["unicode/utf8.first", "unicode/utf8.acceptRanges", "portolan/lex.keys"], apart := false, laid := [("unicode/utf8.acceptRanges", laid_unicode_utf8_acceptRanges), ("portolan/lex.keys", laid_portolan_lex_keys), ("unicode/utf8.first", laid_unicode_utf8_first)], narrowed := true }
def LexWordsUptoSaid : Prop := lexWordsUptoRow.holds Tryd.pinned (OpenSpec.upto lexWordsSpec)

/-- 'portolanlaw07.LexTexts', WHERE WHAT IT READS IS OF BULK AT MOST 1048576: true; the input reads as it did. -/
def lexTextsUptoRow : OpenClaim := { program := "ytokhbjagcnjiaaadoor", sum := "b93d0defe7219c195d29cd1ac2f10ea13aabf4e285050bb8e9521a863295c1b4", func := "portolan/portolanlaw07.LexTexts", spec := "lexTexts", inPlace := ["internal/abi.NoEscape", "internal/bytealg.IndexByteString"], unfollowed := true, recurses := true, named := ["unicode/utf8.first", "unicode/utf8.acceptRanges", "portolan/lex.keys"], apart := false, laid := [("unicode/utf8.acceptRanges", laid_unicode_utf8_acceptRanges), ("portolan/lex.keys", laid_portolan_lex_keys), ("unicode/utf8.first", laid_unicode_utf8_first)], narrowed := true }
def LexTextsUptoSaid : Prop := lexTextsUptoRow.holds Tryd.pinned (OpenSpec.upto lexTextsSpec)

/-- 'portolanlaw07.LexNumbers', WHERE WHAT IT READS IS OF BULK AT MOST 1048576: true; the input reads as it did. -/
def lexNumbersUptoRow : OpenClaim := { program := "ytokhbjagcnjiaaadoor", sum := "b93d0defe7219c195d29cd1ac2f10ea13aabf4e285050bb8e9521a863295c1b4", func := "portolan/portolanlaw07.LexNumbers", spec := "lexNumbers", inPlace := ["internal/abi.NoEscape", "internal/bytealg.IndexByteString"], unfollowed := true, recurses := true, named := ["unicode/utf8.first", "unicode/utf8.acceptRanges", "portolan/lex.keys", "internal/strconv.uint64pow10", "math/bits.deBruijn32tab", "math/bits.deBruijn64tab"], apart := false, laid := [("math/bits.deBruijn32tab", laid_math_bits_deBruijn32tab), ("math/bits.deBruijn64tab", laid_math_bits_deBruijn64tab), ("internal/strconv.uint64pow10", laid_internal_strconv_uint64pow10), ("unicode/utf8.acceptRanges", laid_unicode_utf8_acceptRanges), ("portolan/lex.keys", laid_portolan_lex_keys), ("unicode/utf8.first", laid_unicode_utf8_first)], narrowed := true }
def LexNumbersUptoSaid : Prop := lexNumbersUptoRow.holds Tryd.pinned (OpenSpec.upto lexNumbersSpec)

end Rows
end Go.Proofs.YtokhbjagcnjiaaaDoor
