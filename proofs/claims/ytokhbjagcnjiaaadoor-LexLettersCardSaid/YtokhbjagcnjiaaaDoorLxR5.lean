/- The reference's number against the lexer's: no program in sight. -/
import Derived.Test.YtokhbjagcnjiaaaDoorLxR2
set_option linter.unusedVariables false
set_option linter.unusedSimpArgs false
namespace Go.Proofs.YtokhbjagcnjiaaaDoor
open Go.RowKit

theorem dig_head (b : UInt8) (t : List UInt8) : digitB ((b.toNat : Nat) : Int) = digitB (Lib.decodeL (b :: t)).1 :=
  dig_same ⟨(b :: t).toArray⟩ 0 (by show 0 < (b :: t).toArray.size; simp)
theorem runL_dig_cons (b : UInt8) (t : List UInt8) : runL digitB (b :: t).length (b :: t) = if digitB ((b.toNat : Nat) : Int) then 1 + runL digitB t.length t else 0 := by
  show runL digitB (t.length + 1) (b :: t) = _
  rw [runL_ne digitB t.length (b :: t) (by simp), ← dig_head b t]
  split
  · rename_i h
    have h2 := (dig_ascii b t (by rw [← dig_head b t]; exact h)).2
    rw [h2]
    rfl
  · rfl
/-- What the reference's number tells: as many bytes as there are digits; that it is too great just where the lexer finds none; its value. -/
theorem numR_eq : ∀ (l : List UInt8) (v : Int) (n : Nat) (big : Bool),
    (numR l v n big).2.1 = n + runL digitB l.length l ∧ (big = true → (numR l v n big).2.2 = true) ∧
      (big = false → (numR l v n big).2.2 = (numD (l.take (runL digitB l.length l)) v).isNone ∧ ∀ x, numD (l.take (runL digitB l.length l)) v = some x → (numR l v n big).1 = x)
  | [], v, n, big => ⟨by simp [numR, runL_nil], fun h => by simp [numR, h], fun h => ⟨by simp [numR, runL_nil, numD, h], fun x hx => by simpa [numR, runL_nil, numD] using hx⟩⟩
  | b :: t, v, n, big => by
    rw [runL_dig_cons, numR]
    cases hd : digitB ((b.toNat : Nat) : Int)
    · rw [if_neg (by simp), if_neg (by simp)]
      exact ⟨rfl, fun h => h, fun h => ⟨by simp [numD, h], fun x hx => by simpa [numD] using hx⟩⟩
    · rw [if_pos rfl, if_pos rfl, Nat.add_comm 1, List.take_succ_cons, numD]
      by_cases hb : (9223372036854775807 - ((b.toNat : Int) - 48)) / 10 < v
      · rw [if_pos hb, if_pos hb]
        have h := numR_eq t v (n + 1) true
        exact ⟨by rw [h.1]; omega, fun _ => h.2.1 rfl, fun _ => ⟨by rw [h.2.1 rfl]; rfl, fun x hx => by cases hx⟩⟩
      · rw [if_neg hb, if_neg hb]
        have h := numR_eq t (10 * v + ((b.toNat : Int) - 48)) (n + 1) big
        exact ⟨by rw [h.1]; omega, h.2.1, h.2.2⟩
end Go.Proofs.YtokhbjagcnjiaaaDoor
