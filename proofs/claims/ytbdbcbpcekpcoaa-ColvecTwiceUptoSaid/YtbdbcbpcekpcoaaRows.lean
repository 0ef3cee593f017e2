/-
  No cell of these rows narrows 'for every input' (looked for: loops, veiled, ifaces, maps, wideKeys, modest, calm, conditions, laid).
  DERIVED. THE GIVEN ROWS OF THIS SEAT. 5 by the template 'for every input the law returns true; each argument reads behind the call as it read before'; 0 by the template 'total and deterministic' (their statements: YtbdbcbpcekpcoaaTotals.lean).
  GIVEN WITH THE SEED: the statements are not yours to turn. If you find one false, say at which input.
  Laid BY PROGRAM, IN A SANDBOX (cutbox-rows.mjs): the forced cells as the released guide's own fill.sh prints them over the translation 5d216e62ce6f739a… (all of the seat's roots in one cut). By AI agents, Wed Nov 11 2026. No macro, syntax, notation, axiom, sorry.
-/
import Derived.Test.YtbdbcbpcekpcoaaChecked
import GoSem.Claim
import GoSem.ClaimJoined
import GoSem.ClaimMapViews
import Derived.JoinedTies
import Derived.KernelRfl
namespace Go.Proofs.Ytbdbcbpcekpcoaa
/- THE CELL 'sum', in the pinned program and in every row, IS THE sha256 OF THE DUMP (.gsa) THAT YtbdbcbpcekpcoaaProg.lean LOADS. Nothing in Lean hashes anything: it is a label: what it is worth is what the hold of that sum in a sandbox is worth. -/
noncomputable def Try.pinned : Pinned := { name := "ytbdbcbpcekpcoaa", sum := "5d216e62ce6f739a370d39421b62cced18d5d4fcfe3d89799b693ec55b6b813e", checked := Try.checked }
namespace Rows
def none {H : Type} : Left H := { results := [], args := [] }

/-- 'portolanlaw03.ColvecDicts': WHATEVER THE INPUT: true; the input reads as it did. -/
def colvecDictsSpec : ChangeSpec := { name := "colvecDicts", fn := fun _ => fun
  | [d1, d2] => { results := [.lit (.bool true)], args := [d1, d2] }
  | _ => none }
def colvecDictsRow : OpenClaim := { program := "ytbdbcbpcekpcoaa", sum := "5d216e62ce6f739a370d39421b62cced18d5d4fcfe3d89799b693ec55b6b813e", func := "portolan/portolanlaw03.ColvecDicts", spec := "colvecDicts", unfollowed := true, recurses := true, apart := false }
def ColvecDictsSaid : Prop := colvecDictsRow.holds Try.pinned (OpenSpec.ofChange colvecDictsSpec)

/-- ITS FALSE NEIGHBOUR: 'it returns false'. Refute it at one input. -/
def colvecDictsWrong : ChangeSpec := { name := "colvecDicts", fn := fun _ => fun
  | [d1, d2] => { results := [.lit (.bool false)], args := [d1, d2] }
  | _ => none }
def ColvecDictsWrongFalsely : Prop := colvecDictsRow.holds Try.pinned (OpenSpec.ofChange colvecDictsWrong)

/-- 'portolanlaw03.ColvecNulls': WHATEVER THE INPUT: true; the input reads as it did. -/
def colvecNullsSpec : ChangeSpec := { name := "colvecNulls", fn := fun _ => fun
  | [d1, d2] => { results := [.lit (.bool true)], args := [d1, d2] }
  | _ => none }
def colvecNullsRow : OpenClaim := { program := "ytbdbcbpcekpcoaa", sum := "5d216e62ce6f739a370d39421b62cced18d5d4fcfe3d89799b693ec55b6b813e", func := "portolan/portolanlaw03.ColvecNulls", spec := "colvecNulls", unfollowed := true, recurses := true, apart := false }
def ColvecNullsSaid : Prop := colvecNullsRow.holds Try.pinned (OpenSpec.ofChange colvecNullsSpec)

/-- ITS FALSE NEIGHBOUR: 'it returns false'. Refute it at one input. -/
def colvecNullsWrong : ChangeSpec := { name := "colvecNulls", fn := fun _ => fun
  | [d1, d2] => { results := [.lit (.bool false)], args := [d1, d2] }
  | _ => none }
def ColvecNullsWrongFalsely : Prop := colvecNullsRow.holds Try.pinned (OpenSpec.ofChange colvecNullsWrong)

/-- 'portolanlaw03.ColvecTruths': WHATEVER THE INPUT: true; the input reads as it did. -/
def colvecTruthsSpec : ChangeSpec := { name := "colvecTruths", fn := fun _ => fun
  | [d] => { results := [.lit (.bool true)], args := [d] }
  | _ => none }
def colvecTruthsRow : OpenClaim := { program := "ytbdbcbpcekpcoaa", sum := "5d216e62ce6f739a370d39421b62cced18d5d4fcfe3d89799b693ec55b6b813e", func := "portolan/portolanlaw03.ColvecTruths", spec := "colvecTruths", unfollowed := true, recurses := true, apart := false }
def ColvecTruthsSaid : Prop := colvecTruthsRow.holds Try.pinned (OpenSpec.ofChange colvecTruthsSpec)

/-- ITS FALSE NEIGHBOUR: 'it returns false'. Refute it at one input. -/
def colvecTruthsWrong : ChangeSpec := { name := "colvecTruths", fn := fun _ => fun
  | [d] => { results := [.lit (.bool false)], args := [d] }
  | _ => none }
def ColvecTruthsWrongFalsely : Prop := colvecTruthsRow.holds Try.pinned (OpenSpec.ofChange colvecTruthsWrong)

/-- 'portolanlaw03.ColvecJoins': WHATEVER THE INPUT: true; the input reads as it did. -/
def colvecJoinsSpec : ChangeSpec := { name := "colvecJoins", fn := fun _ => fun
  | [d1, d2, d3] => { results := [.lit (.bool true)], args := [d1, d2, d3] }
  | _ => none }
def colvecJoinsRow : OpenClaim := { program := "ytbdbcbpcekpcoaa", sum := "5d216e62ce6f739a370d39421b62cced18d5d4fcfe3d89799b693ec55b6b813e", func := "portolan/portolanlaw03.ColvecJoins", spec := "colvecJoins", unfollowed := true, recurses := true, apart := false }
def ColvecJoinsSaid : Prop := colvecJoinsRow.holds Try.pinned (OpenSpec.ofChange colvecJoinsSpec)

/-- ITS FALSE NEIGHBOUR: 'it returns false'. Refute it at one input. -/
def colvecJoinsWrong : ChangeSpec := { name := "colvecJoins", fn := fun _ => fun
  | [d1, d2, d3] => { results := [.lit (.bool false)], args := [d1, d2, d3] }
  | _ => none }
def ColvecJoinsWrongFalsely : Prop := colvecJoinsRow.holds Try.pinned (OpenSpec.ofChange colvecJoinsWrong)

/-- 'portolanlaw03.ColvecTwice': WHATEVER THE INPUT: true; the input reads as it did. -/
def colvecTwiceSpec : ChangeSpec := { name := "colvecTwice", fn := fun _ => fun
  | [d1, d2, d3, d4] => { results := [.lit (.bool true)], args := [d1, d2, d3, d4] }
  | _ => none }
def colvecTwiceRow : OpenClaim := { program := "ytbdbcbpcekpcoaa", sum := "5d216e62ce6f739a370d39421b62cced18d5d4fcfe3d89799b693ec55b6b813e", func := "portolan/portolanlaw03.ColvecTwice", spec := "colvecTwice", unfollowed := true, recurses := true, apart := false }
def ColvecTwiceSaid : Prop := colvecTwiceRow.holds Try.pinned (OpenSpec.ofChange colvecTwiceSpec)

/-- ITS FALSE NEIGHBOUR: 'it returns false'. Refute it at one input. -/
def colvecTwiceWrong : ChangeSpec := { name := "colvecTwice", fn := fun _ => fun
  | [d1, d2, d3, d4] => { results := [.lit (.bool false)], args := [d1, d2, d3, d4] }
  | _ => none }
def ColvecTwiceWrongFalsely : Prop := colvecTwiceRow.holds Try.pinned (OpenSpec.ofChange colvecTwiceWrong)

/- THE SECOND FORM. 'bulk': how many values and letters a reading holds, each counted each time it is reached (what is shared counts as often as it is met; a slice's spare places count too). A statement '..UptoSaid' is the law's where the arguments, and the package variables that the reading takes, are together of bulk at most 1048576: NARROWER than '..Said'. Prove '..Said' where nothing that the law and all that it calls make is longer than what came in: it says more and counts as full. Else prove '..UptoSaid'. A law counts once. -/
mutual
def uptoBulk {H : Type} : DataW H → Nat
  | .lit (.string bytes) => bytes.length + 1
  | .lit _ => 1
  | .nil => 1
  | .ptr d => uptoBulk d + 1
  | .slice elems spare => uptoBulkAll elems + uptoBulkAll spare + 1
  | .agg parts => uptoBulkAll parts + 1
  | .iface _ d => uptoBulk d + 1
  | .map entries => uptoBulkEntries entries + 1
  | .held _ => 1
def uptoBulkAll {H : Type} : List (DataW H) → Nat
  | [] => 0
  | d :: r => uptoBulk d + uptoBulkAll r
def uptoBulkEntries {H : Type} : List (Lit × DataW H) → Nat
  | [] => 0
  | x :: r => uptoBulkEntry x + uptoBulkEntries r
def uptoBulkEntry {H : Type} : Lit × DataW H → Nat
  | (.string bytes, d) => bytes.length + uptoBulk d + 1
  | (_, d) => uptoBulk d + 1
 end
def uptoSmall : (H : Type) → List (DataW H) → Bool := fun _ ds => decide (uptoBulkAll ds ≤ 1048576)
def OpenSpec.upto (s : _root_.Go.ChangeSpec) : _root_.Go.OpenSpec := { _root_.Go.OpenSpec.ofChange s with cond := some uptoSmall }

/-- 'portolanlaw03.ColvecDicts', WHERE WHAT IT READS IS OF BULK AT MOST 1048576: true; the input reads as it did. -/
def colvecDictsUptoRow : OpenClaim := { program := "ytbdbcbpcekpcoaa", sum := "5d216e62ce6f739a370d39421b62cced18d5d4fcfe3d89799b693ec55b6b813e", func := "portolan/portolanlaw03.ColvecDicts", spec := "colvecDicts", unfollowed := true, recurses := true, apart := false, narrowed := true }
def ColvecDictsUptoSaid : Prop := colvecDictsUptoRow.holds Try.pinned (OpenSpec.upto colvecDictsSpec)

/-- 'portolanlaw03.ColvecNulls', WHERE WHAT IT READS IS OF BULK AT MOST 1048576: true; the input reads as it did. -/
def colvecNullsUptoRow : OpenClaim := { program := "ytbdbcbpcekpcoaa", sum := "5d216e62ce6f739a370d39421b62cced18d5d4fcfe3d89799b693ec55b6b813e", func := "portolan/portolanlaw03.ColvecNulls", spec := "colvecNulls", unfollowed := true, recurses := true, apart := false, narrowed := true }
def ColvecNullsUptoSaid : Prop := colvecNullsUptoRow.holds Try.pinned (OpenSpec.upto colvecNullsSpec)

/-- 'portolanlaw03.ColvecTruths', WHERE WHAT IT READS IS OF BULK AT MOST 1048576: true; the input reads as it did. -/
def colvecTruthsUptoRow : OpenClaim := { program := "ytbdbcbpcekpcoaa", sum := "5d216e62ce6f739a370d39421b62cced18d5d4fcfe3d89799b693ec55b6b813e", func := "portolan/portolanlaw03.ColvecTruths", spec := "colvecTruths", unfollowed := true, recurses := true, apart := false, narrowed := true }
def ColvecTruthsUptoSaid : Prop := colvecTruthsUptoRow.holds Try.pinned (OpenSpec.upto colvecTruthsSpec)

/-- 'portolanlaw03.ColvecJoins', WHERE WHAT IT READS IS OF BULK AT MOST 1048576: true; the input reads as it did. -/
def colvecJoinsUptoRow : OpenClaim := { program := "ytbdbcbpcekpcoaa", sum := "5d216e62ce6f739a370d39421b62cced18d5d4fcfe3d89799b693ec55b6b813e", func := "portolan/portolanlaw03.ColvecJoins", spec := "colvecJoins", unfollowed := true, recurses := true, apart := false, narrowed := true }
def ColvecJoinsUptoSaid : Prop := colvecJoinsUptoRow.holds Try.pinned (OpenSpec.upto colvecJoinsSpec)

/-- 'portolanlaw03.ColvecTwice', WHERE WHAT IT READS IS OF BULK AT MOST 1048576: true; the input reads as it did. -/
def colvecTwiceUptoRow : OpenClaim := { program := "ytbdbcbpcekpcoaa", sum := "5d216e62ce6f739a370d39421b62cced18d5d4fcfe3d89799b693ec55b6b813e", func := "portolan/portolanlaw03.ColvecTwice", spec := "colvecTwice", unfollowed := true, recurses := true, apart := false, narrowed := true }
def ColvecTwiceUptoSaid : Prop := colvecTwiceUptoRow.holds Try.pinned (OpenSpec.upto colvecTwiceSpec)

end Rows
end Go.Proofs.Ytbdbcbpcekpcoaa
