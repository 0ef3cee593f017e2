/- The walk of the law's sign. -/
import Derived.Test.YthafbdkjpgeopaaDoorLawW
import Derived.Test.YthafbdkjpgeopaaDoorCmpB
set_option linter.unusedVariables false
set_option linter.unusedSimpArgs false
namespace Go.Proofs.YthafbdkjpgeopaaDoor
open Go.RowKit

theorem sign_any (n : Int) (w : World) (h0 : -1 ≤ n) (h1 : n ≤ 1) :
    Calls Tryd.prog 20 #[.int .i64 n] w fun e w' => e = .returned (.int .i64 n) ∧ Below w.heap.size w w' := by
  rcases (show n = -1 ∨ n = 0 ∨ n = 1 by omega) with rfl | rfl | rfl
  all_goals
    go_enter Tryd.func20, Tryd.ntmps20
    go_wp2
    go_ret
    exact ⟨rfl, Below.refl _ _⟩
theorem ordB_range (ka : Int) (ba : Bool) (na : Int) (sa : ByteArray) (pa : List Int) (kb : Int) (bb : Bool) (nb : Int) (sb : ByteArray) (pb : List Int) :
    -1 ≤ ordB ka ba na sa pa kb bb nb sb pb ∧ ordB ka ba na sa pa kb bb nb sb pb ≤ 1 := by
  have h1 := cmpI_range na nb
  have h2 := cmpL_range pa pb
  have h3 := cmpB_range sa.data.toList sb.data.toList
  unfold ordB
  repeat' split
  all_goals omega
end Go.Proofs.YthafbdkjpgeopaaDoor
