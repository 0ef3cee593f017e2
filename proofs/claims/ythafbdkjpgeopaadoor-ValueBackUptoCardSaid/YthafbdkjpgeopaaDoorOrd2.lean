/- How values stand the other way round: no program in sight. -/
import Derived.Test.YthafbdkjpgeopaaDoorOrd1
import Derived.Test.YthafbdkjpgeopaaDoorCmpB
set_option linter.unusedVariables false
set_option linter.unusedSimpArgs false
namespace Go.Proofs.YthafbdkjpgeopaaDoor
open Go.RowKit

theorem cmpI_turn (a b : Int) : cmpI b a = -cmpI a b := by unfold cmpI; repeat' split <;> omega
theorem cmpL_turn : ∀ (a b : List Int), cmpL b a = -cmpL a b
  | [], [] => by simp [cmpL]
  | [], _ :: _ => by simp [cmpL]
  | _ :: _, [] => by simp [cmpL]
  | x :: xs, y :: ys => by
    have := cmpL_turn xs ys
    unfold cmpL
    repeat' split <;> omega
theorem cmpB_turn : ∀ (a b : List UInt8), Lib.compareBytes b a = -Lib.compareBytes a b
  | [], [] => by simp [Lib.compareBytes]
  | [], _ :: _ => by simp [Lib.compareBytes]
  | _ :: _, [] => by simp [Lib.compareBytes]
  | x :: a, y :: b => by
    have ih := cmpB_turn a b
    unfold Lib.compareBytes
    by_cases h1 : x < y
    · have h2 : ¬ y < x := fun h => by
        rw [UInt8.lt_iff_toNat_lt] at h h1
        omega
      simp [h1, h2]
    · by_cases h2 : y < x
      · simp [h1, h2]
      · simp [h1, h2, ih]
theorem ordB_turn (ka : Int) (ba : Bool) (na : Int) (sa : ByteArray) (pa : List Int) (kb : Int) (bb : Bool) (nb : Int) (sb : ByteArray) (pb : List Int) :
    ordB kb bb nb sb pb ka ba na sa pa = -ordB ka ba na sa pa kb bb nb sb pb := by
  unfold ordB
  rcases Int.lt_trichotomy ka kb with h | h | h
  · rw [if_neg (by omega), if_pos h, if_pos h]
    rfl
  · subst h
    simp only [Int.lt_irrefl, if_false]
    rw [cmpI_turn na nb, cmpB_turn, cmpL_turn pa pb]
    by_cases k1 : ka = 1
    · simp only [k1, if_true]
      cases ba <;> cases bb <;> rfl
    · simp only [k1, if_false]
      repeat' split
      all_goals rfl
  · rw [if_pos h, if_neg (by omega), if_pos h]
theorem eqB_turn (ka : Int) (ba : Bool) (na : Int) (sa : ByteArray) (pa : List Int) (kb : Int) (bb : Bool) (nb : Int) (sb : ByteArray) (pb : List Int) :
    eqB kb bb nb sb pb ka ba na sa pa = eqB ka ba na sa pa kb bb nb sb pb := by
  unfold eqB
  rw [ordB_turn]
  by_cases h0 : ka = 0 ∨ kb = 0
  · rw [if_pos h0, if_pos h0.symm]
  · rw [if_neg h0, if_neg (fun h => h0 h.symm)]
    by_cases h7 : ka = 7 ∨ kb = 7
    · rw [if_pos h7, if_pos h7.symm]
    · rw [if_neg h7, if_neg (fun h => h7 h.symm)]
      congr 1
      rw [Bool.eq_iff_iff, beq_iff_eq, beq_iff_eq]
      omega
end Go.Proofs.YthafbdkjpgeopaaDoor
