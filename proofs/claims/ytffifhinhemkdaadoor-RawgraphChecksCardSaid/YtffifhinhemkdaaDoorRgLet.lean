/- Names: the program's and the document's. -/
import Derived.Test.YtffifhinhemkdaaDoorValA
import Derived.Test.YtffifhinhemkdaaDoorRegS
import Derived.Laws.IdiomStrings
set_option linter.unusedVariables false
set_option linter.unusedSimpArgs false
namespace Go.Proofs.YtffifhinhemkdaaDoor
open Go.RowKit

/-- May a rune begin a name? -/
def letterB (c : Int) : Bool := (decide (97 ≤ c) && decide (c ≤ 122)) || (decide (65 ≤ c) && decide (c ≤ 90)) || decide (c = 95) || (decide (192 ≤ c) && decide (c ≤ 591) && decide (c ≠ 215) && decide (c ≠ 247))
set_option maxRecDepth 100000 in
set_option maxHeartbeats 1600000 in
theorem letter_any (c : Int) (w : World) : Calls Tryd.prog 13 #[.int .i32 c] w fun e w' => e = .returned (.bool (letterB c)) ∧ w' = w := by
  have hcase : (97 ≤ c ∧ c ≤ 122) ∨ (122 < c ∧ c < 192) ∨ (192 ≤ c ∧ c ≤ 591 ∧ c ≠ 215 ∧ c ≠ 247) ∨ (c = 215) ∨ (c = 247) ∨ (591 < c) ∨ (65 ≤ c ∧ c ≤ 90) ∨ (c = 95) ∨ (90 < c ∧ c < 97 ∧ c ≠ 95) ∨ (c < 65) := by omega
  rcases hcase with h | h | h | h | h | h | h | h | h | h
  · skip
    have p0 : (97 ≤ c) := by omega
    have p1 : (c ≤ 122) := by omega
    have p2 : (65 ≤ c) := by omega
    have p3 : ¬ (c ≤ 90) := by omega
    have n3 : (90 < c) := by omega
    have p4 : ¬ (192 ≤ c) := by omega
    have n4 : (c < 192) := by omega
    have p5 : (c ≤ 591) := by omega
    have e95 : ¬ c = 95 := by omega
    have b95 : (c == 95) = false := by simp; omega
    have d95 : (c != 95) = true := by simp; omega
    have e215 : ¬ c = 215 := by omega
    have b215 : (c == 215) = false := by simp; omega
    have d215 : (c != 215) = true := by simp; omega
    have e247 : ¬ c = 247 := by omega
    have b247 : (c == 247) = false := by simp; omega
    have d247 : (c != 247) = true := by simp; omega
    have hL : letterB c = true := by simp [letterB]; omega
    rw [hL]
    clear h hL
    go_enter Tryd.func13, Tryd.ntmps13
    go_wp2
    go_ret
    exact ⟨rfl, rfl⟩
  · skip
    have p0 : (97 ≤ c) := by omega
    have p1 : ¬ (c ≤ 122) := by omega
    have n1 : (122 < c) := by omega
    have p2 : (65 ≤ c) := by omega
    have p3 : ¬ (c ≤ 90) := by omega
    have n3 : (90 < c) := by omega
    have p4 : ¬ (192 ≤ c) := by omega
    have n4 : (c < 192) := by omega
    have p5 : (c ≤ 591) := by omega
    have e95 : ¬ c = 95 := by omega
    have b95 : (c == 95) = false := by simp; omega
    have d95 : (c != 95) = true := by simp; omega
    have e215 : ¬ c = 215 := by omega
    have b215 : (c == 215) = false := by simp; omega
    have d215 : (c != 215) = true := by simp; omega
    have e247 : ¬ c = 247 := by omega
    have b247 : (c == 247) = false := by simp; omega
    have d247 : (c != 247) = true := by simp; omega
    have hL : letterB c = false := by simp [letterB]; omega
    rw [hL]
    clear h hL
    go_enter Tryd.func13, Tryd.ntmps13
    go_wp2
    go_ret
    exact ⟨rfl, rfl⟩
  · skip
    have p0 : (97 ≤ c) := by omega
    have p1 : ¬ (c ≤ 122) := by omega
    have n1 : (122 < c) := by omega
    have p2 : (65 ≤ c) := by omega
    have p3 : ¬ (c ≤ 90) := by omega
    have n3 : (90 < c) := by omega
    have p4 : (192 ≤ c) := by omega
    have p5 : (c ≤ 591) := by omega
    have e95 : ¬ c = 95 := by omega
    have b95 : (c == 95) = false := by simp; omega
    have d95 : (c != 95) = true := by simp; omega
    have e215 : ¬ c = 215 := by omega
    have b215 : (c == 215) = false := by simp; omega
    have d215 : (c != 215) = true := by simp; omega
    have e247 : ¬ c = 247 := by omega
    have b247 : (c == 247) = false := by simp; omega
    have d247 : (c != 247) = true := by simp; omega
    have hL : letterB c = true := by simp [letterB]; omega
    rw [hL]
    clear h hL
    go_enter Tryd.func13, Tryd.ntmps13
    go_wp2
    go_ret
    exact ⟨rfl, rfl⟩
  · skip
    subst h
    go_enter Tryd.func13, Tryd.ntmps13
    go_wp2
    go_ret
    exact ⟨rfl, rfl⟩
  · skip
    subst h
    go_enter Tryd.func13, Tryd.ntmps13
    go_wp2
    go_ret
    exact ⟨rfl, rfl⟩
  · skip
    have p0 : (97 ≤ c) := by omega
    have p1 : ¬ (c ≤ 122) := by omega
    have n1 : (122 < c) := by omega
    have p2 : (65 ≤ c) := by omega
    have p3 : ¬ (c ≤ 90) := by omega
    have n3 : (90 < c) := by omega
    have p4 : (192 ≤ c) := by omega
    have p5 : ¬ (c ≤ 591) := by omega
    have n5 : (591 < c) := by omega
    have e95 : ¬ c = 95 := by omega
    have b95 : (c == 95) = false := by simp; omega
    have d95 : (c != 95) = true := by simp; omega
    have e215 : ¬ c = 215 := by omega
    have b215 : (c == 215) = false := by simp; omega
    have d215 : (c != 215) = true := by simp; omega
    have e247 : ¬ c = 247 := by omega
    have b247 : (c == 247) = false := by simp; omega
    have d247 : (c != 247) = true := by simp; omega
    have hL : letterB c = false := by simp [letterB]; omega
    rw [hL]
    clear h hL
    go_enter Tryd.func13, Tryd.ntmps13
    go_wp2
    go_ret
    exact ⟨rfl, rfl⟩
  · skip
    have p0 : ¬ (97 ≤ c) := by omega
    have n0 : (c < 97) := by omega
    have p1 : (c ≤ 122) := by omega
    have p2 : (65 ≤ c) := by omega
    have p3 : (c ≤ 90) := by omega
    have p4 : ¬ (192 ≤ c) := by omega
    have n4 : (c < 192) := by omega
    have p5 : (c ≤ 591) := by omega
    have e95 : ¬ c = 95 := by omega
    have b95 : (c == 95) = false := by simp; omega
    have d95 : (c != 95) = true := by simp; omega
    have e215 : ¬ c = 215 := by omega
    have b215 : (c == 215) = false := by simp; omega
    have d215 : (c != 215) = true := by simp; omega
    have e247 : ¬ c = 247 := by omega
    have b247 : (c == 247) = false := by simp; omega
    have d247 : (c != 247) = true := by simp; omega
    have hL : letterB c = true := by simp [letterB]; omega
    rw [hL]
    clear h hL
    go_enter Tryd.func13, Tryd.ntmps13
    go_wp2
    go_ret
    exact ⟨rfl, rfl⟩
  · skip
    subst h
    go_enter Tryd.func13, Tryd.ntmps13
    go_wp2
    go_ret
    exact ⟨rfl, rfl⟩
  · skip
    have p0 : ¬ (97 ≤ c) := by omega
    have n0 : (c < 97) := by omega
    have p1 : (c ≤ 122) := by omega
    have p2 : (65 ≤ c) := by omega
    have p3 : ¬ (c ≤ 90) := by omega
    have n3 : (90 < c) := by omega
    have p4 : ¬ (192 ≤ c) := by omega
    have n4 : (c < 192) := by omega
    have p5 : (c ≤ 591) := by omega
    have e95 : ¬ c = 95 := by omega
    have b95 : (c == 95) = false := by simp; omega
    have d95 : (c != 95) = true := by simp; omega
    have e215 : ¬ c = 215 := by omega
    have b215 : (c == 215) = false := by simp; omega
    have d215 : (c != 215) = true := by simp; omega
    have e247 : ¬ c = 247 := by omega
    have b247 : (c == 247) = false := by simp; omega
    have d247 : (c != 247) = true := by simp; omega
    have hL : letterB c = false := by simp [letterB]; omega
    rw [hL]
    clear h hL
    go_enter Tryd.func13, Tryd.ntmps13
    go_wp2
    go_ret
    exact ⟨rfl, rfl⟩
  · skip
    have p0 : ¬ (97 ≤ c) := by omega
    have n0 : (c < 97) := by omega
    have p1 : (c ≤ 122) := by omega
    have p2 : ¬ (65 ≤ c) := by omega
    have n2 : (c < 65) := by omega
    have p3 : (c ≤ 90) := by omega
    have p4 : ¬ (192 ≤ c) := by omega
    have n4 : (c < 192) := by omega
    have p5 : (c ≤ 591) := by omega
    have e95 : ¬ c = 95 := by omega
    have b95 : (c == 95) = false := by simp; omega
    have d95 : (c != 95) = true := by simp; omega
    have e215 : ¬ c = 215 := by omega
    have b215 : (c == 215) = false := by simp; omega
    have d215 : (c != 215) = true := by simp; omega
    have e247 : ¬ c = 247 := by omega
    have b247 : (c == 247) = false := by simp; omega
    have d247 : (c != 247) = true := by simp; omega
    have hL : letterB c = false := by simp [letterB]; omega
    rw [hL]
    clear h hL
    go_enter Tryd.func13, Tryd.ntmps13
    go_wp2
    go_ret
    exact ⟨rfl, rfl⟩
end Go.Proofs.YtffifhinhemkdaaDoor
