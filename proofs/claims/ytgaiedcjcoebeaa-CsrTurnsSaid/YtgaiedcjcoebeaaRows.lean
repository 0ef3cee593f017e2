/-
  No cell of these rows narrows 'for every input' (looked for: loops, veiled, ifaces, maps, wideKeys, modest, calm, conditions, laid).
  DERIVED. THE GIVEN ROWS OF THIS SEAT. 3 by the template 'for every input the law returns true; each argument reads behind the call as it read before'; 0 by the template 'total and deterministic' (their statements: YtgaiedcjcoebeaaTotals.lean).
  GIVEN WITH THE SEED: the statements are not yours to turn. If you find one false, say at which input.
  Laid BY PROGRAM, IN A SANDBOX (cutbox-rows.mjs): the forced cells as the released guide's own fill.sh prints them over the translation a94342a71bf19ba5… (all of the seat's roots in one cut). By AI agents, Wed Nov 11 2026. No macro, syntax, notation, axiom, sorry.
-/
import Derived.Test.YtgaiedcjcoebeaaChecked
import GoSem.Claim
import GoSem.ClaimJoined
import GoSem.ClaimMapViews
import Derived.JoinedTies
import Derived.KernelRfl
namespace Go.Proofs.Ytgaiedcjcoebeaa
/- THE CELL 'sum', in the pinned program and in every row, IS THE sha256 OF THE DUMP (.gsa) THAT YtgaiedcjcoebeaaProg.lean LOADS. Nothing in Lean hashes anything: it is a label: what it is worth is what the hold of that sum in a sandbox is worth. -/
noncomputable def Try.pinned : Pinned := { name := "ytgaiedcjcoebeaa", sum := "a94342a71bf19ba5f60488135f6d4cc8b83ebcea1452345dcc960c0b00c6cf95", checked := Try.checked }
namespace Rows
def none {H : Type} : Left H := { results := [], args := [] }

/-- 'portolanlaw06.CsrMeets': WHATEVER THE INPUT: true; the input reads as it did. -/
def csrMeetsSpec : ChangeSpec := { name := "csrMeets", fn := fun _ => fun
  | [d] => { results := [.lit (.bool true)], args := [d] }
  | _ => none }
def csrMeetsRow : OpenClaim := { program := "ytgaiedcjcoebeaa", sum := "a94342a71bf19ba5f60488135f6d4cc8b83ebcea1452345dcc960c0b00c6cf95", func := "portolan/portolanlaw06.CsrMeets", spec := "csrMeets", unfollowed := true, recurses := true, apart := false }
def CsrMeetsSaid : Prop := csrMeetsRow.holds Try.pinned (OpenSpec.ofChange csrMeetsSpec)

/-- ITS FALSE NEIGHBOUR: 'it returns false'. Refute it at one input. -/
def csrMeetsWrong : ChangeSpec := { name := "csrMeets", fn := fun _ => fun
  | [d] => { results := [.lit (.bool false)], args := [d] }
  | _ => none }
def CsrMeetsWrongFalsely : Prop := csrMeetsRow.holds Try.pinned (OpenSpec.ofChange csrMeetsWrong)

/-- 'portolanlaw06.CsrTurns': WHATEVER THE INPUT: true; the input reads as it did. -/
def csrTurnsSpec : ChangeSpec := { name := "csrTurns", fn := fun _ => fun
  | [d1, d2] => { results := [.lit (.bool true)], args := [d1, d2] }
  | _ => none }
def csrTurnsRow : OpenClaim := { program := "ytgaiedcjcoebeaa", sum := "a94342a71bf19ba5f60488135f6d4cc8b83ebcea1452345dcc960c0b00c6cf95", func := "portolan/portolanlaw06.CsrTurns", spec := "csrTurns", unfollowed := true, recurses := true, apart := false }
def CsrTurnsSaid : Prop := csrTurnsRow.holds Try.pinned (OpenSpec.ofChange csrTurnsSpec)

/-- ITS FALSE NEIGHBOUR: 'it returns false'. Refute it at one input. -/
def csrTurnsWrong : ChangeSpec := { name := "csrTurns", fn := fun _ => fun
  | [d1, d2] => { results := [.lit (.bool false)], args := [d1, d2] }
  | _ => none }
def CsrTurnsWrongFalsely : Prop := csrTurnsRow.holds Try.pinned (OpenSpec.ofChange csrTurnsWrong)

/-- 'portolanlaw06.CsrCommon': WHATEVER THE INPUT: true; the input reads as it did. -/
def csrCommonSpec : ChangeSpec := { name := "csrCommon", fn := fun _ => fun
  | [d] => { results := [.lit (.bool true)], args := [d] }
  | _ => none }
def csrCommonRow : OpenClaim := { program := "ytgaiedcjcoebeaa", sum := "a94342a71bf19ba5f60488135f6d4cc8b83ebcea1452345dcc960c0b00c6cf95", func := "portolan/portolanlaw06.CsrCommon", spec := "csrCommon", unfollowed := true, recurses := true, apart := false }
def CsrCommonSaid : Prop := csrCommonRow.holds Try.pinned (OpenSpec.ofChange csrCommonSpec)

/-- ITS FALSE NEIGHBOUR: 'it returns false'. Refute it at one input. -/
def csrCommonWrong : ChangeSpec := { name := "csrCommon", fn := fun _ => fun
  | [d] => { results := [.lit (.bool false)], args := [d] }
  | _ => none }
def CsrCommonWrongFalsely : Prop := csrCommonRow.holds Try.pinned (OpenSpec.ofChange csrCommonWrong)

/- THE SECOND FORM. 'bulk': how many values and letters a reading holds, each counted each time it is reached (what is shared counts as often as it is met; a slice's spare places count too). A statement '..UptoSaid' is the law's where the arguments, and the package variables that the reading takes, are together of bulk at most 1048576: NARROWER than '..Said'. Prove '..Said' where nothing that the law and all that it calls make is longer than what came in: it says more and counts as full. Else prove '..UptoSaid'. A law counts once. -/
mutual
def uptoBulk {H : Type} : DataW H → Nat
  | .lit (.string bytes) => bytes.length + 1
  | .lit _ => 1
  | .nil => 1
  | .ptr d => uptoBulk d + 1
  | .slice elems spare => uptoBulkAll elems + uptoBulkAll spare + 1
  | .agg parts => uptoBulkAll parts + 1
  | .iface _ d => uptoBulk d + 1
  | .map entries => uptoBulkEntries entries + 1
  | .held _ => 1
def uptoBulkAll {H : Type} : List (DataW H) → Nat
  | [] => 0
  | d :: r => uptoBulk d + uptoBulkAll r
def uptoBulkEntries {H : Type} : List (Lit × DataW H) → Nat
  | [] => 0
  | x :: r => uptoBulkEntry x + uptoBulkEntries r
def uptoBulkEntry {H : Type} : Lit × DataW H → Nat
  | (.string bytes, d) => bytes.length + uptoBulk d + 1
  | (_, d) => uptoBulk d + 1
 end
def uptoSmall : (H : Type) → List (DataW H) → Bool := fun _ ds => decide (uptoBulkAll ds ≤ 1048576)
def OpenSpec.upto (s : _root_.Go.ChangeSpec) : _root_.Go.OpenSpec := { _root_.Go.OpenSpec.ofChange s with cond := some uptoSmall }

/-- 'portolanlaw06.CsrMeets', WHERE WHAT IT READS IS OF BULK AT MOST 1048576: true; the input reads as it did. -/
def csrMeetsUptoRow : OpenClaim := { program := "ytgaiedcjcoebeaa", sum := "a94342a71bf19ba5f60488135f6d4cc8b83ebcea1452345dcc960c0b00c6cf95", func := "portolan/portolanlaw06.CsrMeets", spec := "csrMeets", unfollowed := true, recurses := true, apart := false, narrowed := true }
def CsrMeetsUptoSaid : Prop := csrMeetsUptoRow.holds Try.pinned (OpenSpec.upto csrMeetsSpec)

/-- 'portolanlaw06.CsrTurns', WHERE WHAT IT READS IS OF BULK AT MOST 1048576: true; the input reads as it did. -/
def csrTurnsUptoRow : OpenClaim := { program := "ytgaiedcjcoebeaa", sum := "a94342a71bf19ba5f60488135f6d4cc8b83ebcea1452345dcc960c0b00c6cf95", func := "portolan/portolanlaw06.CsrTurns", spec := "csrTurns", unfollowed := true, recurses := true, apart := false, narrowed := true }
def CsrTurnsUptoSaid : Prop := csrTurnsUptoRow.holds Try.pinned (OpenSpec.upto csrTurnsSpec)

/-- 'portolanlaw06.CsrCommon', WHERE WHAT IT READS IS OF BULK AT MOST 1048576: true; the input reads as it did. -/
def csrCommonUptoRow : OpenClaim := { program := "ytgaiedcjcoebeaa", sum := "a94342a71bf19ba5f60488135f6d4cc8b83ebcea1452345dcc960c0b00c6cf95", func := "portolan/portolanlaw06.CsrCommon", spec := "csrCommon", unfollowed := true, recurses := true, apart := false, narrowed := true }
def CsrCommonUptoSaid : Prop := csrCommonUptoRow.holds Try.pinned (OpenSpec.upto csrCommonSpec)

end Rows
end Go.Proofs.Ytgaiedcjcoebeaa
