/- The little functions of the lexer: which rune is a letter, a digit, a blank. -/
import Derived.Test.YtkchpgjjkckfbaaDoorVal0
import Derived.Test.YtkchpgjjkckfbaaDoorRows
set_option linter.unusedVariables false
set_option linter.unusedSimpArgs false
namespace Go.Proofs.YtkchpgjjkckfbaaDoor
open Go.RowKit

/-- May a rune begin a name? -/
def letterB (c : Int) : Bool := (decide (97 ≤ c) && decide (c ≤ 122)) || (decide (65 ≤ c) && decide (c ≤ 90)) || decide (c = 95) || (decide (192 ≤ c) && decide (c ≤ 591) && !decide (c = 215) && !decide (c = 247))
def digitB (c : Int) : Bool := decide (48 ≤ c) && decide (c ≤ 57)
def blankB (c : Int) : Bool := decide (c = 32) || decide (c = 9) || decide (c = 10) || decide (c = 13)
def nameB (c : Int) : Bool := letterB c || digitB c

set_option maxRecDepth 100000 in
set_option maxHeartbeats 1600000 in
theorem digit_any (c : Int) (w : World) :
    Calls Tryd.prog 78 #[.int .i32 c] w fun e w' => e = .returned (.bool (digitB c)) ∧ w = w' := by
  go_enter Tryd.func78, Tryd.ntmps78
  go_wp2
  all_goals go_ret
  all_goals refine ⟨congrArg (fun b => Ending.returned (Value.bool b)) ?_, rfl⟩
  all_goals (try simp only [beq_eq_false_iff_ne, beq_iff_eq, ne_eq, Bool.not_eq_true] at *)
  all_goals (rw [Bool.eq_iff_iff]; simp [digitB]; try omega)
set_option maxRecDepth 100000 in
set_option maxHeartbeats 1600000 in
theorem letter_any (c : Int) (w : World) :
    Calls Tryd.prog 76 #[.int .i32 c] w fun e w' => e = .returned (.bool (letterB c)) ∧ w = w' := by
  go_enter Tryd.func76, Tryd.ntmps76
  go_wp2
  all_goals go_ret
  all_goals refine ⟨congrArg (fun b => Ending.returned (Value.bool b)) ?_, rfl⟩
  all_goals (try simp only [beq_eq_false_iff_ne, beq_iff_eq, ne_eq, Bool.not_eq_true] at *)
  all_goals (rw [Bool.eq_iff_iff]; simp [letterB]; try omega)
set_option maxRecDepth 100000 in
set_option maxHeartbeats 1600000 in
theorem blank_any (c : Int) (w : World) :
    Calls Tryd.prog 74 #[.int .i32 c] w fun e w' => e = .returned (.bool (blankB c)) ∧ w = w' := by
  go_enter Tryd.func74, Tryd.ntmps74
  go_wp2
  all_goals go_ret
  all_goals refine ⟨congrArg (fun b => Ending.returned (Value.bool b)) ?_, rfl⟩
  all_goals (try simp only [beq_eq_false_iff_ne, beq_iff_eq, ne_eq, Bool.not_eq_true] at *)
  all_goals (rw [Bool.eq_iff_iff]; simp [blankB]; try omega)
set_option maxRecDepth 100000 in
set_option maxHeartbeats 1600000 in
theorem name_any (c : Int) (w : World) :
    Calls Tryd.prog 77 #[.int .i32 c] w fun e w' => e = .returned (.bool (nameB c)) ∧ w = w' := by
  have h1 := fun W => letter_any c W
  have h2 := fun W => digit_any c W
  unfold nameB
  generalize letterB c = a at h1 ⊢
  generalize digitB c = b at h2 ⊢
  cases a <;>
  · go_enter Tryd.func77, Tryd.ntmps77
    go_wp2_with (first | (go_at_call 76; refine (h1 _).mono ?_; rintro e w1 ⟨rfl, rfl⟩) | (go_at_call 78; refine (h2 _).mono ?_; rintro e w1 ⟨rfl, rfl⟩))
    go_ret
    exact ⟨by first | rfl | (cases b <;> rfl), rfl⟩
end Go.Proofs.YtkchpgjjkckfbaaDoor
