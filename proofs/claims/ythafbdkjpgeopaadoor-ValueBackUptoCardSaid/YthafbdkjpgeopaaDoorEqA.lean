/- The walks of value.truth, fault, either. -/
import Derived.Test.YthafbdkjpgeopaaDoorOrd1
import Derived.Test.YthafbdkjpgeopaaDoorRows
import Derived.BigGuardPart
set_option linter.unusedVariables false
set_option linter.unusedSimpArgs false
namespace Go.Proofs.YthafbdkjpgeopaaDoor
open Go.RowKit

theorem truth_any (b : Bool) (w : World) :
    Calls Tryd.prog 56 #[.bool b] w fun e w' => e = .returned (.agg #[.int .i64 1, .bool b, .int .i64 0, .string ⟨#[]⟩, .slice none 0 0]) ∧ Below w.heap.size w w' := by
  go_enter Tryd.func56, Tryd.ntmps56
  go_wp2
  exact bodyPost_ret (v := .agg #[.int .i64 1, .bool b, .int .i64 0, .string ⟨#[]⟩, .slice none 0 0]) (by simp [results, Tryd.results56, go_sem]) rfl ⟨rfl, below_more (Below.refl _ _) _⟩
theorem fault_any (w : World) :
    Calls Tryd.prog 57 #[] w fun e w' => e = .returned (.agg #[.int .i64 7, .bool false, .int .i64 0, .string ⟨#[]⟩, .slice none 0 0]) ∧ Below w.heap.size w w' := by
  go_enter Tryd.func57, Tryd.ntmps57
  go_wp2
  exact bodyPost_ret (v := .agg #[.int .i64 7, .bool false, .int .i64 0, .string ⟨#[]⟩, .slice none 0 0]) (by simp [results, Tryd.results57, go_sem]) rfl ⟨rfl, below_more (Below.refl _ _) _⟩
theorem either_any (ka : Int) (na : Int) (ba : Bool) (sa : ByteArray) (Aa : Option Addr) (pa : List Int) (ca : Nat) (kb : Int) (nb : Int) (bb : Bool) (sb : ByteArray) (Ab : Option Addr) (pb : List Int) (cb : Nat) (k : Int) (w : World) :
    Calls Tryd.prog 59 #[.agg #[.int .i64 ka, .bool ba, .int .i64 na, .string sa, .slice Aa pa.length ca], .agg #[.int .i64 kb, .bool bb, .int .i64 nb, .string sb, .slice Ab pb.length cb], .int .i64 k] w fun e w' => e = .returned (.bool (ka == k || kb == k)) ∧ Below w.heap.size w w' := by
  cases h : (ka == k)
  · go_enter Tryd.func59, Tryd.ntmps59
    go_wp2
    go_ret
    exact ⟨by simp, below_more (below_more (Below.refl _ _) _) _⟩
  · go_enter Tryd.func59, Tryd.ntmps59
    go_wp2
    go_ret
    exact ⟨by simp, below_more (below_more (Below.refl _ _) _) _⟩
end Go.Proofs.YthafbdkjpgeopaaDoor
