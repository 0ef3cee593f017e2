/- Bits in words of sixty-four: no program in sight. -/
import Derived.Test.YtbdbcbpcekpcoaaDoorVal0
import Derived.Laws.BitsAllLaws
set_option linter.unusedVariables false
set_option linter.unusedSimpArgs false
namespace Go.Proofs.YtbdbcbpcekpcoaaDoor
open Go.RowKit

/-- The number that bits stand for, the lowest first. -/
def numB : List Bool → Nat
  | [] => 0
  | b :: r => (if b then 1 else 0) + 2 * numB r
theorem numB_lt : ∀ l : List Bool, numB l < 2 ^ l.length
  | [] => by simp [numB]
  | b :: r => by
    have := numB_lt r
    rw [numB, List.length_cons, Nat.pow_succ]
    cases b <;> simp <;> omega
theorem numB_snoc : ∀ (l : List Bool) (b : Bool), numB (l ++ [b]) = numB l + if b then 2 ^ l.length else 0
  | [], b => by cases b <;> simp [numB]
  | x :: r, b => by
    rw [List.cons_append, numB, numB, numB_snoc r b, List.length_cons, Nat.pow_succ]
    cases b <;> cases x <;> simp <;> omega
theorem numB_bit : ∀ (l : List Bool) (t : Nat), numB l / 2 ^ t % 2 = if l.getD t false then 1 else 0
  | [], t => by simp [numB]
  | x :: r, 0 => by
    simp [numB]
    cases x <;> simp <;> omega
  | x :: r, t + 1 => by
    have h := numB_bit r t
    rw [numB, Nat.pow_succ, Nat.mul_comm (2 ^ t) 2, ← Nat.div_div_eq_div_mul]
    have e : ((if x = true then 1 else 0) + 2 * numB r) / 2 = numB r := by cases x <;> simp <;> omega
    rw [e]
    exact h
/-- Bits in words. -/
def chunk (bs : List Bool) (j : Nat) : List Bool := (bs.drop (64 * j)).take 64
def packW (bs : List Bool) : List Int := (List.range ((bs.length + 63) / 64)).map fun j => (numB (chunk bs j) : Int)
theorem packW_len (bs : List Bool) : (packW bs).length = (bs.length + 63) / 64 := by simp [packW]
theorem packW_at (bs : List Bool) (j : Nat) (h : j < (bs.length + 63) / 64) : (packW bs).getD j 0 = (numB (chunk bs j) : Int) := by
  simp [packW, List.getD, h]
theorem chunk_len (bs : List Bool) (j : Nat) (h : 64 * j ≤ bs.length) (h2 : bs.length < 64 * j + 64) : (chunk bs j).length = bs.length - 64 * j := by
  rw [chunk, List.length_take, List.length_drop]
  omega
theorem chunk_old (bs : List Bool) (b : Bool) (j : Nat) (h : 64 * j + 64 ≤ bs.length) : chunk (bs ++ [b]) j = chunk bs j := by
  rw [chunk, chunk, List.drop_append_of_le_length (by omega), List.take_append_of_le_length (by rw [List.length_drop]; omega)]
theorem chunk_new (bs : List Bool) (b : Bool) (j : Nat) (h : 64 * j ≤ bs.length) (h2 : bs.length < 64 * j + 64) : chunk (bs ++ [b]) j = chunk bs j ++ [b] := by
  rw [chunk, chunk, List.drop_append_of_le_length (by omega)]
  rw [List.take_of_length_le (by rw [List.length_append, List.length_drop]; simp; omega), List.take_of_length_le (by rw [List.length_drop]; omega)]
/-- A bit more, at a word's beginning. -/
theorem packW_snoc0 (bs : List Bool) (b : Bool) (h : bs.length % 64 = 0) : packW (bs ++ [b]) = packW bs ++ [if b then 1 else 0] := by
  have e1 : ((bs ++ [b]).length + 63) / 64 = (bs.length + 63) / 64 + 1 := by simp; omega
  rw [packW, e1, List.range_succ, List.map_append, List.map_cons, List.map_nil]
  congr 1
  · refine List.map_congr_left fun j hj => ?_
    rw [chunk_old bs b j (by rw [List.mem_range] at hj; omega)]
  · rw [chunk_new bs b _ (by omega) (by omega), numB_snoc]
    have e2 : chunk bs ((bs.length + 63) / 64) = [] := by
      rw [chunk, List.drop_eq_nil_of_le (by omega)]
      rfl
    rw [e2]
    cases b <;> simp [numB]
/-- A bit more within a word. -/
theorem packW_snoc1 (bs : List Bool) (b : Bool) (h : ¬ bs.length % 64 = 0) : packW (bs ++ [b]) = (packW bs).set (bs.length / 64) ((numB (chunk bs (bs.length / 64)) : Int) + if b then ((2 ^ (bs.length % 64) : Nat) : Int) else 0) := by
  have e1 : ((bs ++ [b]).length + 63) / 64 = (bs.length + 63) / 64 := by simp; omega
  have e3 : (bs.length + 63) / 64 = bs.length / 64 + 1 := by omega
  refine List.ext_getElem? fun j => ?_
  rw [List.getElem?_set, packW_len]
  by_cases hj : bs.length / 64 = j
  · subst hj
    rw [if_pos rfl, if_pos (by omega)]
    rw [packW, e1, List.getElem?_map, List.getElem?_range (by omega), Option.map_some, chunk_new bs b _ (by omega) (by omega), numB_snoc, chunk_len bs _ (by omega) (by omega)]
    have e4 : bs.length - 64 * (bs.length / 64) = bs.length % 64 := by omega
    rw [e4]
    cases b <;> simp
  · rw [if_neg hj, packW, packW, e1, List.getElem?_map, List.getElem?_map]
    by_cases hl : j < (bs.length + 63) / 64
    · rw [List.getElem?_range hl, Option.map_some, Option.map_some, chunk_old bs b j (by omega)]
    · rw [List.getElem?_eq_none (by simp; omega)]
      rfl
theorem packW_same (bs : List Bool) (h : ¬ bs.length % 64 = 0) : packW (bs ++ [false]) = packW bs := by
  rw [packW_snoc1 bs false h]
  have e3 : (bs.length + 63) / 64 = bs.length / 64 + 1 := by omega
  have hg : (packW bs)[bs.length / 64]? = some ((numB (chunk bs (bs.length / 64)) : Int)) := by
    rw [packW, List.getElem?_map, List.getElem?_range (by omega)]
    rfl
  refine List.ext_getElem? fun j => ?_
  rw [List.getElem?_set]
  by_cases hj : bs.length / 64 = j
  · subst hj
    rw [if_pos rfl, if_pos (by rw [packW_len]; omega), hg]
    simp
  · rw [if_neg hj]
theorem chunk_bit (bs : List Bool) (i : Nat) : (chunk bs (i / 64)).getD (i % 64) false = bs.getD i false := by
  simp only [chunk, List.getD]
  rw [List.getElem?_take, if_pos (by omega), List.getElem?_drop, show 64 * (i / 64) + i % 64 = i by omega]
theorem numB_word (bs : List Bool) (j : Nat) : numB (chunk bs j) < 2 ^ 64 := by
  have h := numB_lt (chunk bs j)
  have h2 : (chunk bs j).length ≤ 64 := by rw [chunk, List.length_take]; omega
  exact Nat.lt_of_lt_of_le h (Nat.pow_le_pow_right (by decide) h2)
/-- A bit, as the machine asks for it. -/
theorem word_bit (bs : List Bool) (i : Nat) : ((numB (chunk bs (i / 64)) / 2 ^ (i % 64) % 2 : Nat) : Int) = if bs.getD i false then 1 else 0 := by
  rw [numB_bit, chunk_bit]
  cases bs.getD i false <;> rfl
/-- A bit laid into a word that has not got it. -/
theorem or_bit (x m : Nat) (hx : x < 2 ^ m) (hm : m < 64) : bits .or .u64 (x : Int) ((2 ^ m : Nat) : Int) = (x : Int) + ((2 ^ m : Nat) : Int) := by
  have h64 : 2 ^ m ≤ 2 ^ 63 := Nat.pow_le_pow_right (by decide) (by omega)
  have e63 : (2 : Nat) ^ 63 = 9223372036854775808 := by decide
  rw [u64_or (x : Int) ((2 ^ m : Nat) : Int) (by omega) (by omega) (by omega) (by omega)]
  have e1 : ((x : Int)).toNat = x := rfl
  have e2 : (((2 ^ m : Nat) : Int)).toNat = 2 ^ m := rfl
  rw [e1, e2]
  have h := Nat.two_pow_add_eq_or_of_lt hx 1
  rw [Nat.mul_one, Nat.or_comm] at h
  rw [← h]
  omega
theorem and_one (x : Nat) (hx : x < 2 ^ 64) : bits .and .u64 (x : Int) 1 = ((x % 2 : Nat) : Int) := by
  have e64 : (2 : Nat) ^ 64 = 18446744073709551616 := by decide
  rw [u64_and (x : Int) 1 (by omega) (by omega) (by omega) (by omega)]
  have e1 : ((x : Int)).toNat = x := rfl
  rw [e1]
  show (((x &&& 1 : Nat)) : Int) = _
  rw [Nat.and_one_is_mod]
end Go.Proofs.YtbdbcbpcekpcoaaDoor
