/- The laws of csr.Meet without the program: order, one that stands twice, how often a number stands. -/
import Derived.Test.YtgaiedcjcoebeaaCsP
set_option linter.unusedVariables false
set_option linter.unusedSimpArgs false
namespace Go.Proofs.Ytgaiedcjcoebeaa
open Go.RowKit

/-- Rising lists of the same numbers are the same. -/
theorem up_ext : ∀ (a b : List Int), Up a → Up b → (∀ v, v ∈ a ↔ v ∈ b) → a = b
  | [], b, _, _, h => by
    cases b with
    | nil => rfl
    | cons y b => exact absurd ((h y).2 (by simp)) (by simp)
  | x :: a, [], _, _, h => absurd ((h x).1 (by simp)) (by simp)
  | x :: a, y :: b, ha, hb, h => by
    have hxa := (List.pairwise_cons.1 ha).1
    have hyb := (List.pairwise_cons.1 hb).1
    have hxy : x = y := by
      have h1 := (h x).1 (by simp)
      have h2 := (h y).2 (by simp)
      rcases List.mem_cons.1 h1 with e | h1
      · exact e
      · rcases List.mem_cons.1 h2 with e | h2
        · exact e.symm
        · have := hyb x h1
          have := hxa y h2
          omega
    subst hxy
    congr 1
    refine up_ext a b (List.pairwise_cons.1 ha).2 (List.pairwise_cons.1 hb).2 (fun v => ⟨fun hv => ?_, fun hv => ?_⟩)
    · rcases List.mem_cons.1 ((h v).1 (by simp [hv])) with e | hv'
      · have := hxa v hv; omega
      · exact hv'
    · rcases List.mem_cons.1 ((h v).2 (by simp [hv])) with e | hv'
      · have := hyb v hv; omega
      · exact hv'
theorem mem_common' (ls : List (List Int)) (hne : ls ≠ []) (v : Int) : v ∈ commonL ls ↔ ∀ l ∈ ls, v ∈ l := by
  rw [mem_common ls hne]
  constructor
  · intro h l hl
    obtain ⟨i, hi, rfl⟩ := List.getElem_of_mem hl
    have := h i hi
    simpa [List.getD, hi] using this
  · intro h i hi
    have := h ls[i] (List.getElem_mem hi)
    simpa [List.getD, hi] using this
theorem common_same (a b : List (List Int)) (ha : a ≠ []) (hb : b ≠ []) (hua : ∀ l ∈ a, Up l) (h : ∀ l, l ∈ a ↔ l ∈ b) : commonL a = commonL b :=
  up_ext _ _ (up_common a hua) (up_common b fun l hl => hua l ((h l).2 hl)) (fun v => by
    rw [mem_common' a ha, mem_common' b hb]
    exact ⟨fun k l hl => k l ((h l).2 hl), fun k l hl => k l ((h l).1 hl)⟩)
theorem common_turn (ls : List (List Int)) (n : Nat) (hn : n < ls.length) (hu : ∀ l ∈ ls, Up l) : commonL (ls.drop n ++ ls.take n) = commonL ls := by
  have hne : ls ≠ [] := by intro e; rw [e] at hn; simp at hn
  have hmem : ∀ l, l ∈ ls.drop n ++ ls.take n ↔ l ∈ ls := fun l => by
    rw [List.mem_append, or_comm, ← List.mem_append, List.take_append_drop]
  refine (common_same ls _ hne ?_ hu (fun l => (hmem l).symm)).symm
  intro e
  have := congrArg List.length e
  simp at this
  omega
theorem common_twice (ls : List (List Int)) (n : Nat) (hn : n < ls.length) (hu : ∀ l ∈ ls, Up l) : commonL (ls.drop n ++ ls.take n ++ [ls.getD n []]) = commonL ls := by
  have hne : ls ≠ [] := by intro e; rw [e] at hn; simp at hn
  have hg : ls.getD n [] ∈ ls := by
    rw [List.getD_eq_getElem?_getD, List.getElem?_eq_getElem hn]
    exact List.getElem_mem hn
  have hmem : ∀ l, l ∈ ls.drop n ++ ls.take n ++ [ls.getD n []] ↔ l ∈ ls := fun l => by
    rw [List.mem_append, List.mem_append, or_comm (a := l ∈ ls.drop n), ← List.mem_append, List.take_append_drop]
    constructor
    · rintro (h | h)
      · exact h
      · simp only [List.mem_singleton] at h; rw [h]; exact hg
    · exact .inl
  exact (common_same ls _ hne (by simp) hu (fun l => (hmem l).symm)).symm
theorem common_one (l : List Int) : commonL [l] = l := by simp [commonL]
/-- In how many lists a number stands. -/
def timesL (ls : List (List Int)) (v : Int) : Nat := (ls.filter fun l => l.contains v).length
theorem times_all (ls : List (List Int)) (v : Int) : timesL ls v = ls.length ↔ ∀ l ∈ ls, v ∈ l := by
  unfold timesL
  rw [List.length_filter_eq_length_iff]
  constructor
  · intro h l hl
    simpa using h l hl
  · intro h l hl
    simpa using h l hl
theorem times_le (ls : List (List Int)) (v : Int) : timesL ls v ≤ ls.length := List.length_filter_le _ _
theorem times_take (ls : List (List Int)) (v : Int) (i : Nat) (hi : i < ls.length) : timesL (ls.take (i + 1)) v = timesL (ls.take i) v + if (ls.getD i []).contains v then 1 else 0 := by
  unfold timesL
  have hg : ls.getD i [] = ls[i] := by rw [List.getD_eq_getElem?_getD, List.getElem?_eq_getElem hi]; rfl
  rw [List.take_add_one, List.getElem?_eq_getElem hi, Option.toList_some, List.filter_append, List.length_append, hg]
  rw [List.filter_cons, List.filter_nil]
  cases h : (ls[i]).contains v <;> rfl
/-- As many numbers of the first list stand in all lists as there are in common. -/
theorem common_count (x : List Int) (r : List (List Int)) : (x.filter fun v => decide (timesL (x :: r) v = (x :: r).length)).length = (commonL (x :: r)).length := by
  unfold commonL
  congr 1
  apply List.filter_congr
  intro v hv
  rw [Bool.eq_iff_iff, decide_eq_true_iff, times_all, List.all_eq_true]
  constructor
  · intro h l hl
    simpa using h l (by simp [hl])
  · intro h l hl
    rcases List.mem_cons.1 hl with rfl | hl
    · exact hv
    · simpa using h l hl
/-- A list rises just if each number is below the next one. -/
theorem up_iff (l : List Int) : Up l ↔ ∀ i, i + 1 < l.length → l.getD i 0 < l.getD (i + 1) 0 := by
  constructor
  · intro h i hi
    have e1 : l[i]? = some (l.getD i 0) := by rw [List.getD_eq_getElem?_getD, List.getElem?_eq_getElem (by omega)]; rfl
    have e2 : l[i + 1]? = some (l.getD (i + 1) 0) := by rw [List.getD_eq_getElem?_getD, List.getElem?_eq_getElem hi]; rfl
    exact up_lt h (Nat.lt_succ_self i) e1 e2
  · intro h
    rw [Up, List.pairwise_iff_getElem]
    intro i j hi hj hij
    have key : ∀ d i, i + d + 1 < l.length → l.getD i 0 < l.getD (i + d + 1) 0 := by
      intro d
      induction d with
      | zero => intro i hi; exact h i hi
      | succ d ih =>
        intro i hi
        have h1 := ih i (by omega)
        have h2 := h (i + d + 1) (by omega)
        rw [show i + (d + 1) + 1 = i + d + 1 + 1 by omega]
        omega
    have := key (j - i - 1) i (by omega)
    rw [show i + (j - i - 1) + 1 = j by omega] at this
    simpa [List.getD, hi, hj] using this
end Go.Proofs.Ytgaiedcjcoebeaa
