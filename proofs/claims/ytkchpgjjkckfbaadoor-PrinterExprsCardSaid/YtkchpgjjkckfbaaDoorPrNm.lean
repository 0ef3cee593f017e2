/- Names: the program's and the document's. The document's Letter: may a rune begin a name? Names: the program's Name. Names: the document's Name is the program's. -/
import Derived.Test.YtkchpgjjkckfbaaDoorValA
import Derived.Test.YtkchpgjjkckfbaaDoorRegS
import Derived.Laws.IdiomStrings
import Derived.Test.YtkchpgjjkckfbaaDoorRRight
set_option linter.unusedVariables false
set_option linter.unusedSimpArgs false
namespace Go.Proofs.YtkchpgjjkckfbaaDoor
open Go.RowKit

/-- May a rune begin a name? -/
def gletterB (c : Int) : Bool := (decide (97 ≤ c) && decide (c ≤ 122)) || (decide (65 ≤ c) && decide (c ≤ 90)) || decide (c = 95) || (decide (192 ≤ c) && decide (c ≤ 591) && decide (c ≠ 215) && decide (c ≠ 247))
set_option maxRecDepth 100000 in
set_option maxHeartbeats 1600000 in
theorem gletter_any (c : Int) (w : World) : Calls Tryd.prog 98 #[.int .i32 c] w fun e w' => e = .returned (.bool (gletterB c)) ∧ w' = w := by
  have hcase : (97 ≤ c ∧ c ≤ 122) ∨ (122 < c ∧ c < 192) ∨ (192 ≤ c ∧ c ≤ 591 ∧ c ≠ 215 ∧ c ≠ 247) ∨ (c = 215) ∨ (c = 247) ∨ (591 < c) ∨ (65 ≤ c ∧ c ≤ 90) ∨ (c = 95) ∨ (90 < c ∧ c < 97 ∧ c ≠ 95) ∨ (c < 65) := by omega
  rcases hcase with h | h | h | h | h | h | h | h | h | h
  · skip
    have p0 : (97 ≤ c) := by omega
    have p1 : (c ≤ 122) := by omega
    have p2 : (65 ≤ c) := by omega
    have p3 : ¬ (c ≤ 90) := by omega
    have n3 : (90 < c) := by omega
    have p4 : ¬ (192 ≤ c) := by omega
    have n4 : (c < 192) := by omega
    have p5 : (c ≤ 591) := by omega
    have e95 : ¬ c = 95 := by omega
    have b95 : (c == 95) = false := by simp; omega
    have d95 : (c != 95) = true := by simp; omega
    have e215 : ¬ c = 215 := by omega
    have b215 : (c == 215) = false := by simp; omega
    have d215 : (c != 215) = true := by simp; omega
    have e247 : ¬ c = 247 := by omega
    have b247 : (c == 247) = false := by simp; omega
    have d247 : (c != 247) = true := by simp; omega
    have hL : gletterB c = true := by simp [gletterB]; omega
    rw [hL]
    clear h hL
    go_enter Tryd.func98, Tryd.ntmps98
    go_wp2
    go_ret
    exact ⟨rfl, rfl⟩
  · skip
    have p0 : (97 ≤ c) := by omega
    have p1 : ¬ (c ≤ 122) := by omega
    have n1 : (122 < c) := by omega
    have p2 : (65 ≤ c) := by omega
    have p3 : ¬ (c ≤ 90) := by omega
    have n3 : (90 < c) := by omega
    have p4 : ¬ (192 ≤ c) := by omega
    have n4 : (c < 192) := by omega
    have p5 : (c ≤ 591) := by omega
    have e95 : ¬ c = 95 := by omega
    have b95 : (c == 95) = false := by simp; omega
    have d95 : (c != 95) = true := by simp; omega
    have e215 : ¬ c = 215 := by omega
    have b215 : (c == 215) = false := by simp; omega
    have d215 : (c != 215) = true := by simp; omega
    have e247 : ¬ c = 247 := by omega
    have b247 : (c == 247) = false := by simp; omega
    have d247 : (c != 247) = true := by simp; omega
    have hL : gletterB c = false := by simp [gletterB]; omega
    rw [hL]
    clear h hL
    go_enter Tryd.func98, Tryd.ntmps98
    go_wp2
    go_ret
    exact ⟨rfl, rfl⟩
  · skip
    have p0 : (97 ≤ c) := by omega
    have p1 : ¬ (c ≤ 122) := by omega
    have n1 : (122 < c) := by omega
    have p2 : (65 ≤ c) := by omega
    have p3 : ¬ (c ≤ 90) := by omega
    have n3 : (90 < c) := by omega
    have p4 : (192 ≤ c) := by omega
    have p5 : (c ≤ 591) := by omega
    have e95 : ¬ c = 95 := by omega
    have b95 : (c == 95) = false := by simp; omega
    have d95 : (c != 95) = true := by simp; omega
    have e215 : ¬ c = 215 := by omega
    have b215 : (c == 215) = false := by simp; omega
    have d215 : (c != 215) = true := by simp; omega
    have e247 : ¬ c = 247 := by omega
    have b247 : (c == 247) = false := by simp; omega
    have d247 : (c != 247) = true := by simp; omega
    have hL : gletterB c = true := by simp [gletterB]; omega
    rw [hL]
    clear h hL
    go_enter Tryd.func98, Tryd.ntmps98
    go_wp2
    go_ret
    exact ⟨rfl, rfl⟩
  · skip
    subst h
    go_enter Tryd.func98, Tryd.ntmps98
    go_wp2
    go_ret
    exact ⟨rfl, rfl⟩
  · skip
    subst h
    go_enter Tryd.func98, Tryd.ntmps98
    go_wp2
    go_ret
    exact ⟨rfl, rfl⟩
  · skip
    have p0 : (97 ≤ c) := by omega
    have p1 : ¬ (c ≤ 122) := by omega
    have n1 : (122 < c) := by omega
    have p2 : (65 ≤ c) := by omega
    have p3 : ¬ (c ≤ 90) := by omega
    have n3 : (90 < c) := by omega
    have p4 : (192 ≤ c) := by omega
    have p5 : ¬ (c ≤ 591) := by omega
    have n5 : (591 < c) := by omega
    have e95 : ¬ c = 95 := by omega
    have b95 : (c == 95) = false := by simp; omega
    have d95 : (c != 95) = true := by simp; omega
    have e215 : ¬ c = 215 := by omega
    have b215 : (c == 215) = false := by simp; omega
    have d215 : (c != 215) = true := by simp; omega
    have e247 : ¬ c = 247 := by omega
    have b247 : (c == 247) = false := by simp; omega
    have d247 : (c != 247) = true := by simp; omega
    have hL : gletterB c = false := by simp [gletterB]; omega
    rw [hL]
    clear h hL
    go_enter Tryd.func98, Tryd.ntmps98
    go_wp2
    go_ret
    exact ⟨rfl, rfl⟩
  · skip
    have p0 : ¬ (97 ≤ c) := by omega
    have n0 : (c < 97) := by omega
    have p1 : (c ≤ 122) := by omega
    have p2 : (65 ≤ c) := by omega
    have p3 : (c ≤ 90) := by omega
    have p4 : ¬ (192 ≤ c) := by omega
    have n4 : (c < 192) := by omega
    have p5 : (c ≤ 591) := by omega
    have e95 : ¬ c = 95 := by omega
    have b95 : (c == 95) = false := by simp; omega
    have d95 : (c != 95) = true := by simp; omega
    have e215 : ¬ c = 215 := by omega
    have b215 : (c == 215) = false := by simp; omega
    have d215 : (c != 215) = true := by simp; omega
    have e247 : ¬ c = 247 := by omega
    have b247 : (c == 247) = false := by simp; omega
    have d247 : (c != 247) = true := by simp; omega
    have hL : gletterB c = true := by simp [gletterB]; omega
    rw [hL]
    clear h hL
    go_enter Tryd.func98, Tryd.ntmps98
    go_wp2
    go_ret
    exact ⟨rfl, rfl⟩
  · skip
    subst h
    go_enter Tryd.func98, Tryd.ntmps98
    go_wp2
    go_ret
    exact ⟨rfl, rfl⟩
  · skip
    have p0 : ¬ (97 ≤ c) := by omega
    have n0 : (c < 97) := by omega
    have p1 : (c ≤ 122) := by omega
    have p2 : (65 ≤ c) := by omega
    have p3 : ¬ (c ≤ 90) := by omega
    have n3 : (90 < c) := by omega
    have p4 : ¬ (192 ≤ c) := by omega
    have n4 : (c < 192) := by omega
    have p5 : (c ≤ 591) := by omega
    have e95 : ¬ c = 95 := by omega
    have b95 : (c == 95) = false := by simp; omega
    have d95 : (c != 95) = true := by simp; omega
    have e215 : ¬ c = 215 := by omega
    have b215 : (c == 215) = false := by simp; omega
    have d215 : (c != 215) = true := by simp; omega
    have e247 : ¬ c = 247 := by omega
    have b247 : (c == 247) = false := by simp; omega
    have d247 : (c != 247) = true := by simp; omega
    have hL : gletterB c = false := by simp [gletterB]; omega
    rw [hL]
    clear h hL
    go_enter Tryd.func98, Tryd.ntmps98
    go_wp2
    go_ret
    exact ⟨rfl, rfl⟩
  · skip
    have p0 : ¬ (97 ≤ c) := by omega
    have n0 : (c < 97) := by omega
    have p1 : (c ≤ 122) := by omega
    have p2 : ¬ (65 ≤ c) := by omega
    have n2 : (c < 65) := by omega
    have p3 : (c ≤ 90) := by omega
    have p4 : ¬ (192 ≤ c) := by omega
    have n4 : (c < 192) := by omega
    have p5 : (c ≤ 591) := by omega
    have e95 : ¬ c = 95 := by omega
    have b95 : (c == 95) = false := by simp; omega
    have d95 : (c != 95) = true := by simp; omega
    have e215 : ¬ c = 215 := by omega
    have b215 : (c == 215) = false := by simp; omega
    have d215 : (c != 215) = true := by simp; omega
    have e247 : ¬ c = 247 := by omega
    have b247 : (c == 247) = false := by simp; omega
    have d247 : (c != 247) = true := by simp; omega
    have hL : gletterB c = false := by simp [gletterB]; omega
    rw [hL]
    clear h hL
    go_enter Tryd.func98, Tryd.ntmps98
    go_wp2
    go_ret
    exact ⟨rfl, rfl⟩
set_option maxRecDepth 100000 in
set_option maxHeartbeats 1600000 in
theorem grletter_any (c : Int) (w : World) : Calls Tryd.prog 105 #[.int .i32 c] w fun e w' => e = .returned (.bool (gletterB c)) ∧ w' = w := by
  have hcase : (97 ≤ c ∧ c ≤ 122) ∨ (122 < c ∧ c < 192) ∨ (192 ≤ c ∧ c ≤ 591 ∧ c ≠ 215 ∧ c ≠ 247) ∨ (c = 215) ∨ (c = 247) ∨ (591 < c) ∨ (65 ≤ c ∧ c ≤ 90) ∨ (c = 95) ∨ (90 < c ∧ c < 97 ∧ c ≠ 95) ∨ (c < 65) := by omega
  rcases hcase with h | h | h | h | h | h | h | h | h | h
  · skip
    have p0 : (97 ≤ c) := by omega
    have p1 : (c ≤ 122) := by omega
    have p2 : (65 ≤ c) := by omega
    have p3 : ¬ (c ≤ 90) := by omega
    have n3 : (90 < c) := by omega
    have p4 : ¬ (192 ≤ c) := by omega
    have n4 : (c < 192) := by omega
    have p5 : (c ≤ 591) := by omega
    have e95 : ¬ c = 95 := by omega
    have b95 : (c == 95) = false := by simp; omega
    have d95 : (c != 95) = true := by simp; omega
    have e215 : ¬ c = 215 := by omega
    have b215 : (c == 215) = false := by simp; omega
    have d215 : (c != 215) = true := by simp; omega
    have e247 : ¬ c = 247 := by omega
    have b247 : (c == 247) = false := by simp; omega
    have d247 : (c != 247) = true := by simp; omega
    have hL : gletterB c = true := by simp [gletterB]; omega
    rw [hL]
    clear h hL
    go_enter Tryd.func105, Tryd.ntmps105
    go_wp2
    go_ret
    exact ⟨rfl, rfl⟩
  · skip
    have p0 : (97 ≤ c) := by omega
    have p1 : ¬ (c ≤ 122) := by omega
    have n1 : (122 < c) := by omega
    have p2 : (65 ≤ c) := by omega
    have p3 : ¬ (c ≤ 90) := by omega
    have n3 : (90 < c) := by omega
    have p4 : ¬ (192 ≤ c) := by omega
    have n4 : (c < 192) := by omega
    have p5 : (c ≤ 591) := by omega
    have e95 : ¬ c = 95 := by omega
    have b95 : (c == 95) = false := by simp; omega
    have d95 : (c != 95) = true := by simp; omega
    have e215 : ¬ c = 215 := by omega
    have b215 : (c == 215) = false := by simp; omega
    have d215 : (c != 215) = true := by simp; omega
    have e247 : ¬ c = 247 := by omega
    have b247 : (c == 247) = false := by simp; omega
    have d247 : (c != 247) = true := by simp; omega
    have hL : gletterB c = false := by simp [gletterB]; omega
    rw [hL]
    clear h hL
    go_enter Tryd.func105, Tryd.ntmps105
    go_wp2
    go_ret
    exact ⟨rfl, rfl⟩
  · skip
    have p0 : (97 ≤ c) := by omega
    have p1 : ¬ (c ≤ 122) := by omega
    have n1 : (122 < c) := by omega
    have p2 : (65 ≤ c) := by omega
    have p3 : ¬ (c ≤ 90) := by omega
    have n3 : (90 < c) := by omega
    have p4 : (192 ≤ c) := by omega
    have p5 : (c ≤ 591) := by omega
    have e95 : ¬ c = 95 := by omega
    have b95 : (c == 95) = false := by simp; omega
    have d95 : (c != 95) = true := by simp; omega
    have e215 : ¬ c = 215 := by omega
    have b215 : (c == 215) = false := by simp; omega
    have d215 : (c != 215) = true := by simp; omega
    have e247 : ¬ c = 247 := by omega
    have b247 : (c == 247) = false := by simp; omega
    have d247 : (c != 247) = true := by simp; omega
    have hL : gletterB c = true := by simp [gletterB]; omega
    rw [hL]
    clear h hL
    go_enter Tryd.func105, Tryd.ntmps105
    go_wp2
    go_ret
    exact ⟨rfl, rfl⟩
  · skip
    subst h
    go_enter Tryd.func105, Tryd.ntmps105
    go_wp2
    go_ret
    exact ⟨rfl, rfl⟩
  · skip
    subst h
    go_enter Tryd.func105, Tryd.ntmps105
    go_wp2
    go_ret
    exact ⟨rfl, rfl⟩
  · skip
    have p0 : (97 ≤ c) := by omega
    have p1 : ¬ (c ≤ 122) := by omega
    have n1 : (122 < c) := by omega
    have p2 : (65 ≤ c) := by omega
    have p3 : ¬ (c ≤ 90) := by omega
    have n3 : (90 < c) := by omega
    have p4 : (192 ≤ c) := by omega
    have p5 : ¬ (c ≤ 591) := by omega
    have n5 : (591 < c) := by omega
    have e95 : ¬ c = 95 := by omega
    have b95 : (c == 95) = false := by simp; omega
    have d95 : (c != 95) = true := by simp; omega
    have e215 : ¬ c = 215 := by omega
    have b215 : (c == 215) = false := by simp; omega
    have d215 : (c != 215) = true := by simp; omega
    have e247 : ¬ c = 247 := by omega
    have b247 : (c == 247) = false := by simp; omega
    have d247 : (c != 247) = true := by simp; omega
    have hL : gletterB c = false := by simp [gletterB]; omega
    rw [hL]
    clear h hL
    go_enter Tryd.func105, Tryd.ntmps105
    go_wp2
    go_ret
    exact ⟨rfl, rfl⟩
  · skip
    have p0 : ¬ (97 ≤ c) := by omega
    have n0 : (c < 97) := by omega
    have p1 : (c ≤ 122) := by omega
    have p2 : (65 ≤ c) := by omega
    have p3 : (c ≤ 90) := by omega
    have p4 : ¬ (192 ≤ c) := by omega
    have n4 : (c < 192) := by omega
    have p5 : (c ≤ 591) := by omega
    have e95 : ¬ c = 95 := by omega
    have b95 : (c == 95) = false := by simp; omega
    have d95 : (c != 95) = true := by simp; omega
    have e215 : ¬ c = 215 := by omega
    have b215 : (c == 215) = false := by simp; omega
    have d215 : (c != 215) = true := by simp; omega
    have e247 : ¬ c = 247 := by omega
    have b247 : (c == 247) = false := by simp; omega
    have d247 : (c != 247) = true := by simp; omega
    have hL : gletterB c = true := by simp [gletterB]; omega
    rw [hL]
    clear h hL
    go_enter Tryd.func105, Tryd.ntmps105
    go_wp2
    go_ret
    exact ⟨rfl, rfl⟩
  · skip
    subst h
    go_enter Tryd.func105, Tryd.ntmps105
    go_wp2
    go_ret
    exact ⟨rfl, rfl⟩
  · skip
    have p0 : ¬ (97 ≤ c) := by omega
    have n0 : (c < 97) := by omega
    have p1 : (c ≤ 122) := by omega
    have p2 : (65 ≤ c) := by omega
    have p3 : ¬ (c ≤ 90) := by omega
    have n3 : (90 < c) := by omega
    have p4 : ¬ (192 ≤ c) := by omega
    have n4 : (c < 192) := by omega
    have p5 : (c ≤ 591) := by omega
    have e95 : ¬ c = 95 := by omega
    have b95 : (c == 95) = false := by simp; omega
    have d95 : (c != 95) = true := by simp; omega
    have e215 : ¬ c = 215 := by omega
    have b215 : (c == 215) = false := by simp; omega
    have d215 : (c != 215) = true := by simp; omega
    have e247 : ¬ c = 247 := by omega
    have b247 : (c == 247) = false := by simp; omega
    have d247 : (c != 247) = true := by simp; omega
    have hL : gletterB c = false := by simp [gletterB]; omega
    rw [hL]
    clear h hL
    go_enter Tryd.func105, Tryd.ntmps105
    go_wp2
    go_ret
    exact ⟨rfl, rfl⟩
  · skip
    have p0 : ¬ (97 ≤ c) := by omega
    have n0 : (c < 97) := by omega
    have p1 : (c ≤ 122) := by omega
    have p2 : ¬ (65 ≤ c) := by omega
    have n2 : (c < 65) := by omega
    have p3 : (c ≤ 90) := by omega
    have p4 : ¬ (192 ≤ c) := by omega
    have n4 : (c < 192) := by omega
    have p5 : (c ≤ 591) := by omega
    have e95 : ¬ c = 95 := by omega
    have b95 : (c == 95) = false := by simp; omega
    have d95 : (c != 95) = true := by simp; omega
    have e215 : ¬ c = 215 := by omega
    have b215 : (c == 215) = false := by simp; omega
    have d215 : (c != 215) = true := by simp; omega
    have e247 : ¬ c = 247 := by omega
    have b247 : (c == 247) = false := by simp; omega
    have d247 : (c != 247) = true := by simp; omega
    have hL : gletterB c = false := by simp [gletterB]; omega
    rw [hL]
    clear h hL
    go_enter Tryd.func105, Tryd.ntmps105
    go_wp2
    go_ret
    exact ⟨rfl, rfl⟩
/-- May a rune stand in a name, at its beginning (first) or behind? -/
def runeB (first : Bool) (c : Int) : Bool := gletterB c || (decide (48 ≤ c) && decide (c ≤ 57) && !first)
def gnameF (s : ByteArray) : Nat → Nat → Bool
  | 0, _ => true
  | f + 1, pos => if pos < s.size then runeB (decide (pos = 0)) ((Utf8.decode s pos).1 : Int) && gnameF s f (pos + (Utf8.decode s pos).2) else true
/-- What rawgraph.Name answers. -/
def gnameB (s : ByteArray) : Bool := decide (1 ≤ s.size) && decide (s.size ≤ 32) && gnameF s s.size 0
theorem gnameF_step (s : ByteArray) (f pos : Nat) (hp : pos < s.size) (hf : s.size ≤ f + pos) : ∃ g, s.size ≤ g + (pos + 1) ∧ gnameF s f pos = (runeB (decide (pos = 0)) ((Utf8.decode s pos).1 : Int) && gnameF s g (pos + (Utf8.decode s pos).2)) := by
  cases f with
  | zero => omega
  | succ g => exact ⟨g, by omega, by rw [gnameF, if_pos hp]⟩
theorem gnameF_end (s : ByteArray) (f pos : Nat) (hp : ¬ pos < s.size) : gnameF s f pos = true := by
  cases f with
  | zero => rfl
  | succ g => rw [gnameF, if_neg hp]
set_option maxRecDepth 100000 in
set_option maxHeartbeats 1600000 in
theorem gname_any (s : ByteArray) (w : World) :
    Calls Tryd.prog 67 #[.string s] w fun e w' => e = .returned (.bool (gnameB s)) ∧ Below w.heap.size w w' := by
  by_cases h0 : s.size = 0
  · have hs : s = ⟨#[]⟩ := by
      obtain ⟨a⟩ := s
      congr 1
      exact Array.eq_empty_of_size_eq_zero h0
    subst hs
    go_enter Tryd.func67, Tryd.ntmps67
    go_wp2
    go_ret
    exact ⟨rfl, Below.refl _ _⟩
  · have he : (s.toList == ([] : List UInt8)) = false := by rw [empty_toList]; exact decide_eq_false h0
    have hes : s.isEmpty = false := by
      rw [ByteArray.isEmpty]
      simp [h0]
    by_cases h32 : s.size ≤ 32
    · have h33 : ¬ (32 : Int) < (s.size : Int) := by omega
      have hsz : (s.size : Int) ≤ 32 := by omega
      obtain ⟨ANS, hANS⟩ : ∃ ANS, gnameB s = ANS := ⟨_, rfl⟩
      have hA : gnameF s s.size 0 = ANS := by
        rw [← hANS, gnameB, decide_eq_true (by omega), decide_eq_true h32]
        rfl
      have HA := Aside0.mk hA
      rw [hANS]
      clear hANS hA h0
      go_enter Tryd.func67, Tryd.ntmps67
      go_wp2
      go_loopg [3, 4] (s.size + 1) (fun gk v3 v4 wr => ∃ pos : Nat, wr = w.iter s pos ∧ Aside0 (∃ f, s.size ≤ f + pos ∧ gnameF s f pos = ANS) ∧ s.size < gk + pos)
      case atStart => exact ⟨0, rfl, ⟨s.size, by omega, HA.out⟩, by omega⟩
      case round =>
        obtain ⟨pos, rfl, HV, hb⟩ := hrel
        by_cases hp : pos < s.size
        · have hnx : ∀ ty, (Instr.next (.pointer (some ⟨w.heap.size, 0, none⟩)) true ty).run Tryd.prog (w.iter s pos) = _ := fun ty => run_next_any w s pos ty hp
          have hw1 : 1 ≤ (Utf8.decode s pos).2 := by
            have hd := Lib.decodeL_drop s pos
            have h1 := Lib.decodeL_width (s.data.toList.drop pos)
            rw [hd] at h1
            exact h1
          obtain ⟨f, hf, hN⟩ := HV.out
          obtain ⟨g, hg, hst⟩ := gnameF_step s f pos hp hf
          rw [hN] at hst
          have HST := Aside0.mk (And.intro hg hst)
          have HW := Aside0.mk hw1
          have HP := Aside0.mk hp
          have hpi : (pos : Int) ≤ (s.size : Int) := by omega
          have hgk : 0 < gk := by omega
          have hL := gletter_any ((Utf8.decode s pos).1 : Int) (w.iter s (pos + (Utf8.decode s pos).2))
          have HRB : Aside0 (runeB (decide (pos = 0)) ((Utf8.decode s pos).1 : Int) = (gletterB ((Utf8.decode s pos).1 : Int) || (decide (48 ≤ ((Utf8.decode s pos).1 : Int)) && decide (((Utf8.decode s pos).1 : Int) ≤ 57) && !decide (pos = 0)))) := ⟨rfl⟩
          have hr := HRB.out
          clear HRB
          cases hlet : gletterB ((Utf8.decode s pos).1 : Int) with
          | true =>
            rw [hlet] at hL hr
            have HR : Aside0 (runeB (decide (pos = 0)) ((Utf8.decode s pos).1 : Int) = true) := ⟨by rw [hr]; rfl⟩
            clear hr hlet
            clear hst hN hg hf hw1 hp
            go_wp2_with (go_at_call 98; go_loud (refine hL.mono ?_); (intro e W' hWE; obtain ⟨rfl, hWe⟩ := hWE; obtain rfl := hWe.symm; clear hWe))
            clear hL
            go_roundg (gk - 1)
            case measure => omega
            case rel =>
              have hst := HST.out.2
              rw [HR.out, Bool.true_and] at hst
              exact ⟨_, rfl, ⟨g, by have := HST.out.1; have := HW.out; omega, hst.symm⟩, by have := HW.out; omega⟩
          | false =>
            rw [hlet] at hL hr
            rw [Bool.false_or] at hr
            clear hlet
            by_cases h48 : (48 : Int) ≤ ((Utf8.decode s pos).1 : Int)
            · by_cases h57 : ((Utf8.decode s pos).1 : Int) ≤ 57
              · by_cases hp0 : pos = 0
                · have HR : Aside0 (runeB (decide (pos = 0)) ((Utf8.decode s pos).1 : Int) = false) := ⟨by rw [hr, decide_eq_true hp0]; simp⟩
                  have hp1 : ¬ (0 : Int) < (pos : Int) := by omega
                  have hp2 : (pos : Int) = 0 := by omega
                  clear hr hp0
                  clear hst hN hg hf hw1 hp
                  go_wp2_with (go_at_call 98; go_loud (refine hL.mono ?_); (intro e W' hWE; obtain ⟨rfl, hWe⟩ := hWE; obtain rfl := hWe.symm; clear hWe))
                  clear hL
                  go_ret
                  have hst := HST.out.2
                  rw [HR.out, Bool.false_and] at hst
                  exact ⟨by rw [hst]; rfl, (Below.refl _ _).alloc (Nat.le_refl _) _⟩
                · have HR : Aside0 (runeB (decide (pos = 0)) ((Utf8.decode s pos).1 : Int) = true) := ⟨by rw [hr, decide_eq_true h48, decide_eq_true h57, decide_eq_false hp0]; rfl⟩
                  have hp1 : (0 : Int) < (pos : Int) := by omega
                  have hp3 : 0 < pos := by omega
                  clear hr
                  clear hst hN hg hf hw1 hp
                  go_wp2_with (go_at_call 98; go_loud (refine hL.mono ?_); (intro e W' hWE; obtain ⟨rfl, hWe⟩ := hWE; obtain rfl := hWe.symm; clear hWe))
                  clear hL
                  go_roundg (gk - 1)
                  case measure => omega
                  case rel =>
                    have hst := HST.out.2
                    rw [HR.out, Bool.true_and] at hst
                    exact ⟨_, rfl, ⟨g, by have := HST.out.1; have := HW.out; omega, hst.symm⟩, by have := HW.out; omega⟩
              · have HR : Aside0 (runeB (decide (pos = 0)) ((Utf8.decode s pos).1 : Int) = false) := ⟨by rw [hr, decide_eq_false h57]; simp⟩
                have h58 : (57 : Int) < ((Utf8.decode s pos).1 : Int) := by omega
                clear hr
                clear hst hN hg hf hw1 hp
                go_wp2_with (go_at_call 98; go_loud (refine hL.mono ?_); (intro e W' hWE; obtain ⟨rfl, hWe⟩ := hWE; obtain rfl := hWe.symm; clear hWe))
                clear hL
                go_ret
                have hst := HST.out.2
                rw [HR.out, Bool.false_and] at hst
                exact ⟨by rw [hst]; rfl, (Below.refl _ _).alloc (Nat.le_refl _) _⟩
            · have HR : Aside0 (runeB (decide (pos = 0)) ((Utf8.decode s pos).1 : Int) = false) := ⟨by rw [hr, decide_eq_false h48]; simp⟩
              have h47 : ((Utf8.decode s pos).1 : Int) < 48 := by omega
              clear hr
              clear hst hN hg hf hw1 hp
              go_wp2_with (go_at_call 98; go_loud (refine hL.mono ?_); (intro e W' hWE; obtain ⟨rfl, hWe⟩ := hWE; obtain rfl := hWe.symm; clear hWe))
              clear hL
              go_ret
              have hst := HST.out.2
              rw [HR.out, Bool.false_and] at hst
              exact ⟨by rw [hst]; rfl, (Below.refl _ _).alloc (Nat.le_refl _) _⟩
        · have hnx : ∀ ty, (Instr.next (.pointer (some ⟨w.heap.size, 0, none⟩)) true ty).run Tryd.prog (w.iter s pos) = _ := fun ty => run_next_end w s pos ty hp
          go_wp2
          go_ret
          obtain ⟨f, hf, hN⟩ := HV.out
          rw [gnameF_end s f pos hp] at hN
          exact ⟨by rw [← hN]; rfl, (Below.refl _ _).alloc (Nat.le_refl _) _⟩
    · have h33 : (32 : Int) < (s.size : Int) := by omega
      have hB : gnameB s = false := by rw [gnameB, decide_eq_false h32]; simp
      rw [hB]
      go_enter Tryd.func67, Tryd.ntmps67
      go_wp2
      go_ret
      exact ⟨rfl, Below.refl _ _⟩
def runesI (s : ByteArray) : Nat → Nat → List Int
  | 0, _ => []
  | f + 1, pos => if pos < s.size then ((Utf8.decode s pos).1 : Int) :: runesI s f (pos + (Utf8.decode s pos).2) else []
def okR : Bool → List Int → Bool
  | _, [] => true
  | first, c :: r => runeB first c && okR false r
theorem runes_conv (s : ByteArray) : ∀ (f pos : Nat) (acc : Array Value), (Conv.runesFrom s f pos acc).toList = acc.toList ++ (runesI s f pos).map fun n => Value.int .i32 n
  | 0, pos, acc => by simp [Conv.runesFrom, runesI]
  | f + 1, pos, acc => by
    unfold Conv.runesFrom runesI
    by_cases hp : pos < s.size
    · rw [if_pos hp, if_pos hp]
      have h := runes_conv s f (pos + (Utf8.decode s pos).2) (acc.push (.int .i32 (Int.ofNat (Utf8.decode s pos).1)))
      simp only [h, Array.toList_push, List.map_cons, List.append_assoc, List.singleton_append]
      rfl
    · rw [if_neg hp, if_neg hp]
      simp
theorem width_pos (s : ByteArray) (pos : Nat) : 1 ≤ (Utf8.decode s pos).2 := by
  have hd := Lib.decodeL_drop s pos
  have h1 := Lib.decodeL_width (s.data.toList.drop pos)
  rw [hd] at h1
  exact h1
theorem nameF_ok (s : ByteArray) : ∀ (f pos : Nat), gnameF s f pos = okR (decide (pos = 0)) (runesI s f pos)
  | 0, pos => rfl
  | f + 1, pos => by
    unfold gnameF runesI
    by_cases hp : pos < s.size
    · rw [if_pos hp, if_pos hp, okR, nameF_ok s f]
      have h := width_pos s pos
      rw [decide_eq_false (show ¬ pos + (Utf8.decode s pos).2 = 0 by omega)]
    · rw [if_neg hp, if_neg hp]
      rfl
theorem bad_rune (first : Bool) : runeB first 65533 = false := by cases first <;> decide
theorem ok_valid (s : ByteArray) : ∀ (f pos : Nat) (first : Bool), s.size ≤ f + pos → okR first (runesI s f pos) = true → Lib.validD (s.data.toList.drop pos) = true
  | 0, pos, first, hf, _ => by
    have : s.data.toList.drop pos = [] := List.drop_eq_nil_of_le (by have hs : s.data.toList.length = s.size := rfl; omega)
    rw [this]
    rfl
  | f + 1, pos, first, hf, h => by
    have hs : s.data.toList.length = s.size := rfl
    by_cases hp : pos < s.size
    · have hne : s.data.toList.drop pos ≠ [] := by
        intro e
        have := congrArg List.length e
        simp at this
        omega
      have hw := width_pos s pos
      unfold runesI at h
      rw [if_pos hp, okR, Bool.and_eq_true] at h
      rw [Lib.validD_step _ hne, Lib.decodeL_drop, List.drop_drop]
      have hr : ¬ ((Utf8.decode s pos).1 = 65533 ∧ (Utf8.decode s pos).2 = 1) := fun ⟨e, _⟩ => by
        have h1 := h.1
        rw [e] at h1
        rw [show ((65533 : Nat) : Int) = 65533 from rfl, bad_rune] at h1
        cases h1
      rw [if_neg hr]
      exact ok_valid s f _ false (by omega) h.2
    · have : s.data.toList.drop pos = [] := List.drop_eq_nil_of_le (by omega)
      rw [this]
      rfl
theorem name_runes (s : ByteArray) : gnameB s = (decide (1 ≤ s.size) && decide (s.size ≤ 32) && okR true (runesI s s.size 0)) := by
  rw [gnameB, nameF_ok]
  rfl
theorem runesI_len (s : ByteArray) : ∀ (f pos : Nat), (runesI s f pos).length ≤ f
  | 0, _ => by simp [runesI]
  | f + 1, pos => by
    unfold runesI
    split
    · rw [List.length_cons]
      have := runesI_len s f (pos + (Utf8.decode s pos).2)
      omega
    · simp
theorem conv_runes (s : ByteArray) (h32 : s.size ≤ 32) (W : World) : ∃ cap W2, (convert 9 157 (.string s)).run Tryd.prog W = .ok (.slice (some ⟨W.heap.size, 0, none⟩) (runesI s s.size 0).length cap) W2 ∧ (∀ j, j < (runesI s s.size 0).length → W2.cell? ⟨W.heap.size, j, none⟩ = some (.int .i32 ((runesI s s.size 0).getD j 0))) ∧ Below W.heap.size W W2 := by
  have hc := runes_conv s s.size 0 #[]
  have hlen : (Conv.runesFrom s s.size 0 #[]).size = (runesI s s.size 0).length := by
    have := congrArg List.length hc
    simpa using this
  have hl := runesI_len s s.size 0
  have hrun := run_runes_of_string (P := Tryd.prog) W 9 157 21 s Tryd.underlying9 Tryd.underlying157 Tryd.underlying21 (by omega)
  rw [hlen] at hrun
  refine ⟨_, _, hrun, fun j hj => ?_, ?_⟩
  · have h1 : (W.drew.alloc (.cells (Conv.runesFrom s s.size 0 #[] ++ Array.replicate (grownCap W (runesI s s.size 0).length 0 21 - (runesI s s.size 0).length) (.int .i32 0)) 21)).heap[W.heap.size]? = some (.cells (Conv.runesFrom s s.size 0 #[] ++ Array.replicate (grownCap W (runesI s s.size 0).length 0 21 - (runesI s s.size 0).length) (.int .i32 0)) 21) := heap_alloc_new W.drew _
    unfold World.cell?
    rw [h1]
    have h2 : (Conv.runesFrom s s.size 0 #[])[j]? = some (.int .i32 ((runesI s s.size 0).getD j 0)) := by
      rw [← Array.getElem?_toList, hc]
      simp [List.getD, hj]
    simp only
    rw [Array.getElem?_append_left (by omega)]
    exact h2
  · exact Below.alloc (w := W.drew) (below_drew (Below.refl _ _)) (Nat.le_refl _) _
set_option maxRecDepth 100000 in
set_option maxHeartbeats 1600000 in
theorem grname_any (s : ByteArray) (w : World) (hT : Lib.Utf8Tabs 1 2 w) :
    Calls Tryd.prog 71 #[.string s] w fun e w' => e = .returned (.bool (gnameB s)) ∧ Below w.heap.size w w' := by
  by_cases h0 : s.size < 1
  · have h1 : (s.size : Int) < 1 := by omega
    have hs0 : s.size = 0 := by omega
    have hB : gnameB s = false := by rw [gnameB, decide_eq_false (show ¬ 1 ≤ s.size by omega)]; rfl
    rw [hB]
    clear h0
    go_enter Tryd.func71, Tryd.ntmps71
    go_wp2
    go_ret
    exact ⟨rfl, Below.refl _ _⟩
  · have h1 : ¬ (s.size : Int) < 1 := by omega
    have h1' : (1 : Int) ≤ (s.size : Int) := by omega
    have hs0 : ¬ s.size = 0 := by omega
    by_cases h32 : s.size ≤ 32
    · have h33 : ¬ (32 : Int) < (s.size : Int) := by omega
      have hsz : (s.size : Int) ≤ 32 := by omega
      have hva := valid_any s w (by omega) hT
      have hNB := name_runes s
      rw [decide_eq_true (show 1 ≤ s.size by omega), decide_eq_true h32, Bool.true_and, Bool.true_and] at hNB
      have hov := ok_valid s s.size 0 true (by omega)
      rw [← hNB, List.drop_zero] at hov
      cases hvd : Lib.validD s.data.toList with
      | false =>
        have hB : gnameB s = false := by
          cases hb : gnameB s with
          | false => rfl
          | true => rw [hov hb] at hvd; cases hvd
        rw [hvd] at hva
        rw [hB]
        clear hov hNB hvd hB h0
        go_enter Tryd.func71, Tryd.ntmps71
        go_wp2_with (go_at_call 95; go_loud (refine hva.mono ?_))
        first
          | (intro e W1 he hb1; subst he)
          | rintro e W1 ⟨rfl, hb1⟩
        go_wp2
        go_ret
        exact ⟨rfl, hb1⟩
      | true =>
        rw [hvd] at hva
        rw [hNB]
        have HCV := Aside0.mk (conv_runes s h32)
        obtain ⟨L, hL⟩ : ∃ L, L = runesI s s.size 0 := ⟨_, rfl⟩
        have hl := runesI_len s s.size 0
        rw [← hL] at HCV hl ⊢
        obtain ⟨ANS, hANS⟩ : ∃ ANS, okR true L = ANS := ⟨_, rfl⟩
        rw [hANS]
        have HA := Aside0.mk hANS
        obtain ⟨n, hn⟩ : ∃ n, n = L.length := ⟨_, rfl⟩
        have HN := Aside0.mk hn
        rw [← hn] at HCV hl
        have hn9 : (n : Int) ≤ 32 := by omega
        clear hov hNB hvd hL hANS hn hl h0
        go_enter Tryd.func71, Tryd.ntmps71
        go_upto_region 3 with (go_at_call 95; go_loud (refine hva.mono ?_))
        first
          | (intro e W1 he hb1; subst he)
          | rintro e W1 ⟨rfl, hb1⟩
        obtain ⟨cap, W2, hcv, hcl, hb2⟩ := HCV.out W1
        have HCL := Aside0.mk (And.intro hcl (below_then hb1 hb2))
        obtain ⟨bb, hbb⟩ : ∃ bb, bb = W1.heap.size := ⟨_, rfl⟩
        rw [← hbb] at hcv HCL
        clear hva hcl hb1 hb2 hbb HCV
        go_upto_region 3 with (fail)
        go_wp2
        go_loopg [4] (n + 1) (fun gg s4 wr => ∃ j : Nat, j ≤ n ∧ n < gg + j ∧ s4 = .int .i64 j ∧ Aside0 (okR (decide (j = 0)) (L.drop j) = ANS) ∧ wr = W2)
        case atStart => exact ⟨0, by omega, by omega, rfl, ⟨HA.out⟩, rfl⟩
        case round =>
          obtain ⟨j, hj, hg, rfl, HK, rfl⟩ := hrel
          have hj0 : (0 : Int) ≤ (j : Int) := by omega
          by_cases hlt : j < n
          · have hlti : (j : Int) < (n : Int) := by omega
            have hcl := HCL.out.1 j hlt
            have hk := HK.out
            have hdr : L.drop j = L.getD j 0 :: L.drop (j + 1) := by
              have hjl : j < L.length := by have := HN.out; omega
              rw [List.drop_eq_getElem_cons hjl, List.getD_eq_getElem?_getD, List.getElem?_eq_getElem hjl]
              rfl
            rw [hdr, okR] at hk
            generalize L.getD j 0 = c at hcl hk
            have hadd : (⟨bb, 0, none⟩ : Addr).add j = ⟨bb, j, none⟩ := by
              unfold Addr.add
              split
              · rename_i h; rw [h]
              · simp
            have hL := grletter_any c wr
            have HRB : runeB (decide (j = 0)) c = (gletterB c || (decide (48 ≤ c) && decide (c ≤ 57) && !decide (j = 0))) := rfl
            rw [HRB] at hk
            have HG := Aside0.mk (And.intro hj hg)
            clear HRB hdr HK hj hg
            cases hlet : gletterB c with
            | true =>
              rw [hlet] at hL hk
              have HK2 : Aside0 (okR false (L.drop (j + 1)) = ANS) := ⟨by rw [← hk]; rfl⟩
              clear hk hlet
              by_cases h48 : 48 ≤ c
              · by_cases h57 : c ≤ 57
                · skip
                  go_wp2_with (go_at_call 105; go_loud (refine hL.mono ?_); (intro e W' hWE; obtain ⟨rfl, hWe⟩ := hWE; obtain rfl := hWe.symm; clear hWe))
                  go_roundg (gk - 1)
                  case measure => have := HG.out; omega
                  case rel => exact ⟨j + 1, by omega, by have := HG.out; omega, by go_num, ⟨by have h := HK2.out; rw [decide_eq_false (show ¬ j + 1 = 0 by omega)]; exact h⟩, rfl⟩
                · have h58 : 57 < c := by omega
                  go_wp2_with (go_at_call 105; go_loud (refine hL.mono ?_); (intro e W' hWE; obtain ⟨rfl, hWe⟩ := hWE; obtain rfl := hWe.symm; clear hWe))
                  go_roundg (gk - 1)
                  case measure => have := HG.out; omega
                  case rel => exact ⟨j + 1, by omega, by have := HG.out; omega, by go_num, ⟨by have h := HK2.out; rw [decide_eq_false (show ¬ j + 1 = 0 by omega)]; exact h⟩, rfl⟩
              · have h47 : c < 48 := by omega
                go_wp2_with (go_at_call 105; go_loud (refine hL.mono ?_); (intro e W' hWE; obtain ⟨rfl, hWe⟩ := hWE; obtain rfl := hWe.symm; clear hWe))
                go_roundg (gk - 1)
                case measure => have := HG.out; omega
                case rel => exact ⟨j + 1, by omega, by have := HG.out; omega, by go_num, ⟨by have h := HK2.out; rw [decide_eq_false (show ¬ j + 1 = 0 by omega)]; exact h⟩, rfl⟩
            | false =>
              rw [hlet, Bool.false_or] at hk
              rw [hlet] at hL
              clear hlet
              by_cases h48 : 48 ≤ c
              · by_cases h57 : c ≤ 57
                · by_cases hp0 : j = 0
                  · have HK2 : Aside0 (false = ANS) := ⟨by rw [← hk, decide_eq_true hp0]; simp⟩
                    subst hp0
                    have hcl' : wr.cell? ⟨bb, 0, none⟩ = some (.int .i32 c) := hcl
                    have hn0 : 0 < n := hlt
                    clear hk hj0 hadd
                    go_wp2_with (go_at_call 105; go_loud (refine hL.mono ?_); (intro e W' hWE; obtain ⟨rfl, hWe⟩ := hWE; obtain rfl := hWe.symm; clear hWe))
                    go_ret
                    exact ⟨by rw [← HK2.out]; rfl, HCL.out.2⟩
                  · have HK2 : Aside0 (okR false (L.drop (j + 1)) = ANS) := ⟨by rw [← hk, decide_eq_true h48, decide_eq_true h57, decide_eq_false hp0]; rfl⟩
                    have hp1 : (0 : Int) < (j : Int) := by omega
                    have hp3 : 0 < j := by omega
                    clear hk
                    go_wp2_with (go_at_call 105; go_loud (refine hL.mono ?_); (intro e W' hWE; obtain ⟨rfl, hWe⟩ := hWE; obtain rfl := hWe.symm; clear hWe))
                    go_roundg (gk - 1)
                    case measure => have := HG.out; omega
                    case rel => exact ⟨j + 1, by omega, by have := HG.out; omega, by go_num, ⟨by have h := HK2.out; rw [decide_eq_false (show ¬ j + 1 = 0 by omega)]; exact h⟩, rfl⟩
                · have h58 : 57 < c := by omega
                  have HK2 : Aside0 (false = ANS) := ⟨by rw [← hk, decide_eq_false h57]; simp⟩
                  clear hk
                  go_wp2_with (go_at_call 105; go_loud (refine hL.mono ?_); (intro e W' hWE; obtain ⟨rfl, hWe⟩ := hWE; obtain rfl := hWe.symm; clear hWe))
                  go_ret
                  exact ⟨by rw [← HK2.out]; rfl, HCL.out.2⟩
              · have h47 : c < 48 := by omega
                have HK2 : Aside0 (false = ANS) := ⟨by rw [← hk, decide_eq_false h48]; simp⟩
                clear hk
                go_wp2_with (go_at_call 105; go_loud (refine hL.mono ?_); (intro e W' hWE; obtain ⟨rfl, hWe⟩ := hWE; obtain rfl := hWe.symm; clear hWe))
                go_ret
                exact ⟨by rw [← HK2.out]; rfl, HCL.out.2⟩
          · obtain rfl : j = n := by omega
            have hjj : ¬ (j : Int) < (j : Int) := by omega
            have hk := HK.out
            rw [List.drop_eq_nil_of_le (by have := HN.out; omega)] at hk
            go_wp2
            go_ret
            exact ⟨by rw [← hk]; rfl, HCL.out.2⟩
    · have h33 : (32 : Int) < (s.size : Int) := by omega
      have hB : gnameB s = false := by rw [gnameB, decide_eq_false h32]; simp
      rw [hB]
      clear h0 h32
      go_enter Tryd.func71, Tryd.ntmps71
      go_wp2
      go_ret
      exact ⟨rfl, Below.refl _ _⟩
end Go.Proofs.YtkchpgjjkckfbaaDoor
