/- What the law's walks share. -/
import Derived.Test.YthafbdkjpgeopaaDoorHead
import Derived.Test.YthafbdkjpgeopaaDoorSame
import Derived.Deep.RegionWith
import Derived.Deep.RegionHeld3
set_option linter.unusedVariables false
set_option linter.unusedSimpArgs false
namespace Go.Proofs.YthafbdkjpgeopaaDoor
open Go.RowKit

theorem same_truth (k k' : Int) (b b' : Bool) (w : World) :
    Calls Tryd.prog 24 #[.agg #[.int .i64 k, .bool b, .int .i64 0, .string ⟨#[]⟩, .slice none 0 0], .agg #[.int .i64 k', .bool b', .int .i64 0, .string ⟨#[]⟩, .slice none 0 0]] w fun e w' => e = .returned (.bool (k == k' && b == b')) ∧ Below w.heap.size w w' := by
  have h0 : ReadsI w none [] := ⟨by decide, fun h => absurd h (by decide)⟩
  have := same_any k 0 b ⟨#[]⟩ none [] 0 k' 0 b' ⟨#[]⟩ none [] 0 w h0 h0
  rw [show sameB k b 0 ⟨#[]⟩ [] k' b' 0 ⟨#[]⟩ [] = (k == k' && b == b') by simp [sameB]] at this
  exact this
theorem same_self (r : Int × Bool) (w : World) :
    Calls Tryd.prog 24 #[.agg #[.int .i64 r.1, .bool r.2, .int .i64 0, .string ⟨#[]⟩, .slice none 0 0], .agg #[.int .i64 r.1, .bool r.2, .int .i64 0, .string ⟨#[]⟩, .slice none 0 0]] w fun e w' => e = .returned (.bool true) ∧ Below w.heap.size w w' := by
  have := same_truth r.1 r.1 r.2 r.2 w
  simpa using this
end Go.Proofs.YthafbdkjpgeopaaDoor
