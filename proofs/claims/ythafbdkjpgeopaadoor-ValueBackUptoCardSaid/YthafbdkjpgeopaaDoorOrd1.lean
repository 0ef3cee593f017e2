/- Words for the answers of Equal, Less, And, Or, Not: no program in sight. -/
import Derived.Test.YthafbdkjpgeopaaDoorOrd0
set_option linter.unusedVariables false
set_option linter.unusedSimpArgs false
namespace Go.Proofs.YthafbdkjpgeopaaDoor
open Go.RowKit

/-- A value of a kind, with a truth. -/
def truthV (k : Int) (b : Bool) : Value := .agg #[.int .i64 k, .bool b, .int .i64 0, .string ⟨#[]⟩, .slice none 0 0]
/-- What value.Equal answers: a kind, a truth. -/
def eqB (ka : Int) (ba : Bool) (na : Int) (sa : ByteArray) (pa : List Int) (kb : Int) (bb : Bool) (nb : Int) (sb : ByteArray) (pb : List Int) : Int × Bool :=
  if ka = 0 ∨ kb = 0 then (0, false) else if ka = 7 ∨ kb = 7 then (7, false) else (1, ordB ka ba na sa pa kb bb nb sb pb == 0)
/-- What value.Less answers: a kind, a truth. -/
def lessB (ka : Int) (ba : Bool) (na : Int) (sa : ByteArray) (pa : List Int) (kb : Int) (bb : Bool) (nb : Int) (sb : ByteArray) (pb : List Int) : Int × Bool :=
  if ka = 0 ∨ kb = 0 then (0, false) else if ka ≠ kb ∨ ka = 7 then (7, false) else (1, decide (ordB ka ba na sa pa kb bb nb sb pb < 0))
/-- What value.And (is: false) and value.Or (is: true) answer: a kind, a truth. -/
def joinB (is : Bool) (ka : Int) (ba : Bool) (kb : Int) (bb : Bool) : Int × Bool :=
  if (ka == 1 && ba == is) = true ∨ (kb == 1 && bb == is) = true then (1, is) else if ka = 0 ∨ kb = 0 then (0, false) else if ka ≠ 1 ∨ kb ≠ 1 then (7, false) else (1, !is)
/-- What value.Not answers: a kind, a truth. -/
def notB (ka : Int) (ba : Bool) : Int × Bool := if ka = 1 then (1, !ba) else if ka = 0 then (0, false) else (7, false)
end Go.Proofs.YthafbdkjpgeopaaDoor
