/- What a field of a value that was returned is. -/
import Derived.Test.YthafbdkjpgeopaaDoorLawW
set_option linter.unusedVariables false
set_option linter.unusedSimpArgs false
namespace Go.Proofs.YthafbdkjpgeopaaDoor
open Go.RowKit

theorem field_kind (k : Int) (b : Bool) (W : World) : (Instr.field 25 (.agg #[.int .i64 k, .bool b, .int .i64 0, .string ⟨#[]⟩, .slice none 0 0]) 0).run Tryd.prog W = .ok (.int .i64 k) W := by kernel_rfl
theorem field_bool (k : Int) (b : Bool) (W : World) : (Instr.field 25 (.agg #[.int .i64 k, .bool b, .int .i64 0, .string ⟨#[]⟩, .slice none 0 0]) 1).run Tryd.prog W = .ok (.bool b) W := by kernel_rfl
end Go.Proofs.YthafbdkjpgeopaaDoor
