/- The words of a text: no program in sight. -/
import Derived.Test.YtokhbjagcnjiaaaDoorLxQuot
import Derived.Test.YtokhbjagcnjiaaaDoorLxNum
import Derived.Test.YtokhbjagcnjiaaaDoorLxSign
import Derived.Test.YtokhbjagcnjiaaaDoorLxKey
set_option linter.unusedVariables false
set_option linter.unusedSimpArgs false
namespace Go.Proofs.YtokhbjagcnjiaaaDoor
open Go.RowKit

/-- A word: its kind, its text, its number, its place. -/
abbrev Tok := Int × List UInt8 × Int × Int
def tokCells (t : Tok) : List Value := [.int .i64 t.1, .string ⟨t.2.1.toArray⟩, .int .i64 t.2.2.1, .int .i64 t.2.2.2]
def toksCells : List Tok → List Value
  | [] => []
  | t :: r => tokCells t ++ toksCells r
theorem toksCells_append : ∀ a b, toksCells (a ++ b) = toksCells a ++ toksCells b
  | [], b => rfl
  | t :: r, b => by simp [toksCells, toksCells_append r b]
theorem toksCells_length : ∀ a, (toksCells a).length = a.length * 4
  | [] => rfl
  | t :: r => by simp [toksCells, tokCells, toksCells_length r]; omega
/-- The word at a text's head, or why there is none; how many bytes it takes. -/
def wordL (l : List UInt8) (at_ : Int) : Int × Tok × Nat :=
  if letterB (Lib.decodeL l).1 then
    if keyL (l.take (runL nameB l.length l)) = [] then
      (if 32 < runL nameB l.length l then (74, (0, [], 0, 0), 0) else (0, (1, l.take (runL nameB l.length l), 0, at_), runL nameB l.length l))
    else (0, (2, keyL (l.take (runL nameB l.length l)), 0, at_), runL nameB l.length l)
  else if digitB (Lib.decodeL l).1 then
    match numD (l.take (runL digitB l.length l)) 0 with
    | none => (72, (0, [], 0, 0), 0)
    | some v => (0, (3, [], v, at_), runL digitB l.length l)
  else if (Lib.decodeL l).1 = 39 then
    (if (quotL l).2 = 0 then (73, (0, [], 0, 0), 0) else (0, (4, (quotL l).1, 0, at_), (quotL l).2))
  else if signL l = [] then (71, (0, [], 0, 0), 0) else (0, (5, signL l, 0, at_), (signL l).length)
/-- A text's words; or the place where one is none, and why. -/
def lexF : Nat → Nat → List Tok → List UInt8 → List Tok × Nat × Int
  | 0, _, _, _ => ([], 0, 0)
  | f + 1, at_, acc, l =>
    if l.drop (runL blankB l.length l) = [] then (acc, 0, 0)
    else if (wordL (l.drop (runL blankB l.length l)) ((at_ + runL blankB l.length l : Nat) : Int)).1 ≠ 0 then ([], at_ + runL blankB l.length l, (wordL (l.drop (runL blankB l.length l)) ((at_ + runL blankB l.length l : Nat) : Int)).1)
    else lexF f (at_ + runL blankB l.length l + (wordL (l.drop (runL blankB l.length l)) ((at_ + runL blankB l.length l : Nat) : Int)).2.2) (acc ++ [(wordL (l.drop (runL blankB l.length l)) ((at_ + runL blankB l.length l : Nat) : Int)).2.1])
      ((l.drop (runL blankB l.length l)).drop (wordL (l.drop (runL blankB l.length l)) ((at_ + runL blankB l.length l : Nat) : Int)).2.2)
def lexL (l : List UInt8) : List Tok × Nat × Int := if 4096 < l.length then ([], 0, 2) else lexF (l.length + 1) 0 [] l

theorem runL_le (is : Int → Bool) : ∀ f l, runL is f l ≤ l.length
  | 0, l => Nat.zero_le _
  | f + 1, [] => Nat.zero_le _
  | f + 1, b :: t => by
    rw [runL, if_neg (by simp)]
    split
    · have h := runL_le is f ((b :: t).drop (Lib.decodeL (b :: t)).2)
      have h2 := Lib.decodeL_le (b :: t) (by simp)
      rw [List.length_drop] at h
      omega
    · exact Nat.zero_le _
theorem runL_pos (is : Int → Bool) (l : List UInt8) (hne : l ≠ []) (h : is (Lib.decodeL l).1 = true) : 1 ≤ runL is l.length l := by
  obtain ⟨n, hn⟩ : ∃ n, l.length = n + 1 := ⟨l.length - 1, by have := List.length_pos_iff.2 hne; omega⟩
  rw [hn, runL, if_neg hne, if_pos h]
  have := Lib.decodeL_width l
  omega
theorem dig_ascii (b : UInt8) (t : List UInt8) (h : digitB (Lib.decodeL (b :: t)).1 = true) : (48 ≤ b.toNat ∧ b.toNat ≤ 57) ∧ (Lib.decodeL (b :: t)).2 = 1 := by
  by_cases ha : b.toNat < 128
  · rw [Lib.decodeL_ascii b t ha] at h ⊢
    simp [digitB] at h
    exact ⟨⟨by omega, by omega⟩, rfl⟩
  · have hh : 128 ≤ (Lib.decodeL (b :: t)).1 := (decode_high ⟨(b :: t).toArray⟩ 0 (by show 0 < (b :: t).toArray.size; simp) (by show 128 ≤ b.toNat; omega)).1
    simp [digitB] at h
    omega
theorem runL_dig : ∀ (f : Nat) (l : List UInt8), AllDig (l.take (runL digitB f l))
  | 0, l => by simp [runL, AllDig]
  | f + 1, [] => by simp [runL, AllDig]
  | f + 1, b :: t => by
    rw [runL, if_neg (by simp)]
    split
    · rename_i h
      obtain ⟨h1, h2⟩ := dig_ascii b t h
      rw [h2]
      have ih := runL_dig f t
      simp only [List.drop_succ_cons, List.drop_zero]
      rw [Nat.add_comm, List.take_succ_cons]
      intro x hx
      rcases List.mem_cons.1 hx with rfl | hx
      · exact h1
      · exact ih x hx
    · simp [AllDig]
theorem quotF_le : ∀ f i bh acc l, (quotF f i bh acc l).2 ≤ i + l.length := by
  intro f
  induction f with
  | zero => intro i bh acc l; simp [quotF]
  | succ f ih =>
    intro i bh acc l
    rw [quotF]
    by_cases hne : l = []
    · simp [hne]
    rw [if_neg hne]
    have hw := Lib.decodeL_width l
    have hle := Lib.decodeL_le l hne
    have hl := List.length_pos_iff.2 hne
    have key : ∀ bh' acc', (quotF f (i + (Lib.decodeL l).2) bh' acc' (l.drop (Lib.decodeL l).2)).2 ≤ i + l.length := fun bh' acc' => by
      have := ih (i + (Lib.decodeL l).2) bh' acc' (l.drop (Lib.decodeL l).2)
      rw [List.length_drop] at this
      omega
    repeat' split
    all_goals first | exact key _ _ | (simp; omega) | simp
theorem quotL_le (l : List UInt8) : (quotL l).2 ≤ l.length := by
  have := quotF_le l.length 0 false [] l
  unfold quotL
  omega
theorem signL_le (l : List UInt8) : (signL l).length ≤ l.length := by
  have key : ∀ a b : UInt8, Lib.hasPrefix l [a, b] = true → 2 ≤ l.length := by
    intro a b h
    match l, h with
    | [], h => simp [Lib.hasPrefix] at h
    | [_], h => simp [Lib.hasPrefix] at h
    | _ :: _ :: t, _ => simp
  unfold signL
  split
  · exact key _ _ (by assumption)
  split
  · exact key _ _ (by assumption)
  split
  · exact key _ _ (by assumption)
  split
  · exact key _ _ (by assumption)
  split
  · rw [List.length_take]; omega
  · simp
end Go.Proofs.YtokhbjagcnjiaaaDoor
