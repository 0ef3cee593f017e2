/- How values stand to one another, in plain words: no program in sight. -/
import Derived.Test.YthafbdkjpgeopaaDoorVal0
import Derived.Shelf.Small.Strs
set_option linter.unusedVariables false
set_option linter.unusedSimpArgs false
namespace Go.Proofs.YthafbdkjpgeopaaDoor
open Go.RowKit

def cmpI (a b : Int) : Int := if a < b then -1 else if b < a then 1 else 0
def cmpL : List Int → List Int → Int
  | [], [] => 0
  | [], _ :: _ => -1
  | _ :: _, [] => 1
  | x :: xs, y :: ys => if x < y then -1 else if y < x then 1 else cmpL xs ys
/-- What value.Order answers. -/
def ordB (ka : Int) (ba : Bool) (na : Int) (sa : ByteArray) (pa : List Int) (kb : Int) (bb : Bool) (nb : Int) (sb : ByteArray) (pb : List Int) : Int :=
  if ka < kb then -1 else if kb < ka then 1
  else if ka = 1 then (if ba = bb then 0 else if ba then 1 else -1)
  else if ka = 2 ∨ ka = 4 ∨ ka = 5 then cmpI na nb
  else if ka = 3 then Lib.compareBytes sa.data.toList sb.data.toList
  else if ka = 6 then cmpL pa pb
  else 0
theorem cmpI_range (a b : Int) : -1 ≤ cmpI a b ∧ cmpI a b ≤ 1 := by unfold cmpI; repeat' split <;> omega
theorem cmpL_range : ∀ (a b : List Int), -1 ≤ cmpL a b ∧ cmpL a b ≤ 1
  | [], [] => by simp [cmpL]
  | [], _ :: _ => by simp [cmpL]
  | _ :: _, [] => by simp [cmpL]
  | x :: xs, y :: ys => by
    have := cmpL_range xs ys
    unfold cmpL
    repeat' split <;> omega
end Go.Proofs.YthafbdkjpgeopaaDoor
