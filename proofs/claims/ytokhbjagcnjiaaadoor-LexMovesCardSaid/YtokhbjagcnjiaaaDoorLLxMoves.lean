/- The walk of the law LexMoves. -/
import Derived.Test.YtokhbjagcnjiaaaDoorLLxMovF
import Derived.Test.YtokhbjagcnjiaaaDoorLLxMovT
set_option linter.unusedVariables false
set_option linter.unusedSimpArgs false
namespace Go.Proofs.YtokhbjagcnjiaaaDoor
open Go.RowKit

theorem u8_range {z : Int} (h : (Lit.int .u8 z).wf = true) : 0 ≤ z ∧ z ≤ 255 := by
  simp [Lit.wf, IntKind.min, IntKind.max, IntKind.bits, IntKind.signed] at h
  omega
theorem moves_walk (s : ByteArray) (z : Int) (t : Bool) (w : World) (hs : s.size ≤ 9223372036854775807) (hz : (Lit.int .u8 z).wf = true) (hk : KeysLie w) (hU : Lib.Utf8Tabs 1 2 w) :
    Calls Tryd.prog 3 #[.string s, .int .u8 z, .bool t] w fun e w' => e = .returned (.bool true) ∧ Below w.heap.size w w' := by
  cases t
  · exact moves_false s z w hs (u8_range hz).1 (u8_range hz).2 hk hU
  · exact moves_true s z w hs (u8_range hz).1 (u8_range hz).2 hk hU
end Go.Proofs.YtokhbjagcnjiaaaDoor
