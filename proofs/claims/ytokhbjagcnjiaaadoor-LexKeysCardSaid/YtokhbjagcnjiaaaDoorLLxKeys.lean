/- The walk of the law LexKeys. -/
import Derived.Test.YtokhbjagcnjiaaaDoorLxHead
set_option linter.unusedVariables false
set_option linter.unusedSimpArgs false
namespace Go.Proofs.YtokhbjagcnjiaaaDoor
open Go.RowKit

set_option maxRecDepth 100000 in
set_option maxHeartbeats 1600000 in
theorem keys_walk (s : ByteArray) (w : World) (hs : s.size ≤ 9223372036854775807) (hk : KeysLie w) (hU : Lib.Utf8Tabs 1 2 w) :
    Calls Tryd.prog 5 #[.string s] w fun e w' => e = .returned (.bool true) ∧ Below w.heap.size w w' := by
  have hH := head_any w hk hU
  have h1 : ∀ W, Below w.heap.size w W → Calls Tryd.prog 12 #[.string s] W fun e w' => e = .returned (.string ⟨(keyL s.data.toList).toArray⟩) ∧ Below W.heap.size W w' := fun W hW => key_any s W hs (hk.below hW)
  have h2 : ∀ W, Calls Tryd.prog 13 #[.string s] W fun e w' => e = .returned (.string ⟨(keyL s.data.toList).toArray⟩) ∧ Below W.heap.size W w' := fun W => rkey_any s W hs
  generalize (⟨(keyL s.data.toList).toArray⟩ : ByteArray) = T at h1 h2
  have hTT : (T.toList == T.toList) = true := by simp
  clear hk hU
  go_enter Tryd.func5, Tryd.ntmps5
  go_wp2_with (go_at_call 9; refine hH.mono ?_)
  first
    | (intro e W1 he hb1; subst he)
    | rintro e W1 ⟨rfl, hb1⟩
  go_wp2_with (go_at_call 12; refine (h1 _ hb1).mono ?_)
  first
    | (intro e W2 he hb2; subst he)
    | rintro e W2 ⟨rfl, hb2⟩
  have HB2 := below_then hb1 hb2
  clear hb1 hb2
  go_wp2_with (go_at_call 13; refine (h2 _).mono ?_)
  first
    | (intro e W3 he hb3; subst he)
    | rintro e W3 ⟨rfl, hb3⟩
  have HB3 := below_then HB2 hb3
  clear hb3
  go_wp2
  go_ret
  exact ⟨rfl, HB3⟩
end Go.Proofs.YtokhbjagcnjiaaaDoor
