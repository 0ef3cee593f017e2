/- What a drawn world keeps. -/
import Derived.Test.YtkchpgjjkckfbaaDoorVal0
import Derived.Test.YtkchpgjjkckfbaaDoorRows
import Derived.BigGuardPart
set_option linter.unusedVariables false
set_option linter.unusedSimpArgs false
namespace Go.Proofs.YtkchpgjjkckfbaaDoor
open Go.RowKit

theorem below_drewn {w W : World} (h : Below w.heap.size w W) (n : Nat) : Below w.heap.size w (W.drewN n) := ⟨h.os, h.tape, h.output, h.size, h.block⟩
theorem below_drew {w W : World} (h : Below w.heap.size w W) : Below w.heap.size w W.drew := h.drew
theorem drop_getD' (p : List Int) (k : Nat) (h : k < p.length) : p.drop k = p.getD k 0 :: p.drop (k + 1) := by
  rw [List.drop_eq_getElem_cons h]
  simp [List.getD, h]
end Go.Proofs.YtkchpgjjkckfbaaDoor
