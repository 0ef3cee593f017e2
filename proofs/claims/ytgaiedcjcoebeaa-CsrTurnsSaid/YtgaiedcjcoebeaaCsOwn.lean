/- What csr.Meet answers, as it is read. -/
import Derived.Test.YtgaiedcjcoebeaaCsTimes
set_option linter.unusedVariables false
set_option linter.unusedSimpArgs false
namespace Go.Proofs.Ytgaiedcjcoebeaa
open Go.RowKit

/-- An own row of numbers, as a slice that is read. -/
theorem own_nums {W : World} {B : Nat} {v : Value} {p : List Int} (h : W.ownsRow B 3 1 v p.length (numCells p)) :
    ∃ (A : Option Addr) (cap : Nat), v = .slice A p.length cap ∧ ReadsI W A p ∧ p.length ≤ cap := by
  have h' := h
  rcases h with ⟨hl, ⟨rfl, h0⟩ | ⟨g, cap, cur, rfl, hg, hh, hn, hm, hs, htk⟩⟩
  · rw [h0]
    exact ⟨none, 0, rfl, ⟨by omega, fun hp => absurd hp (by omega)⟩, Nat.le_refl _⟩
  · refine ⟨_, cap, rfl, ⟨by unfold maxLen at hm; omega, fun _ => ⟨_, rfl, fun j hj => ?_⟩⟩, hn⟩
    have hcs := h'.cells (g := g) rfl j (.int .i64 (p.getD j 0)) (by simp [numCells, List.getD, hj])
    exact hcs
theorem meet_reads (A : Option Addr) (rs : List R3) (c : Nat) (w : World) (hr : ReadsL w A rs) (hsm : Small rs) :
    Calls Try.prog 7 #[.slice A rs.length c] w fun e w' => ∃ A' c', e = .returned (.tuple #[.slice A' (meetL (lsOf rs)).length c', .int .i64 (meetE (lsOf rs))]) ∧ ReadsI w' A' (meetL (lsOf rs)) ∧ (meetL (lsOf rs)).length ≤ c' ∧ Below w.heap.size w w' := by
  refine (meet_any A rs c w hr hsm).mono ?_
  rintro e w' ⟨v, rfl, ho, hb⟩
  obtain ⟨A', c', rfl, h1, h2⟩ := own_nums ho
  exact ⟨A', c', rfl, h1, h2, hb⟩
/-- The answer is an error and nothing, or what the lists have in common. -/
theorem meet_cases (ls : List (List Int)) : (meetE ls = 1 ∧ meetL ls = []) ∨ (meetE ls = 61 ∧ meetL ls = []) ∨ (meetE ls = 0 ∧ ls ≠ [] ∧ (∀ l ∈ ls, Up l) ∧ meetL ls = commonL ls) := by
  unfold meetE meetL
  by_cases h : ls = []
  · subst h
    left
    exact ⟨rfl, rfl⟩
  · rw [if_neg h]
    cases hu : upAll ls
    · right; left
      exact ⟨rfl, rfl⟩
    · right; right
      exact ⟨rfl, h, (upAll_iff ls).1 hu, rfl⟩
theorem common_small {rs : List R3} (hsm : Small rs) (h : lsOf rs ≠ []) : (commonL (lsOf rs)).length ≤ 17592186044416 := by
  have h1 := common_len (lsOf rs) h
  have h0 : 0 < rs.length := by
    rcases Nat.eq_zero_or_pos rs.length with e | e
    · exact absurd (by rw [List.length_eq_zero_iff.1 e]; rfl) h
    · exact e
  rw [lsOf_getD rs 0 h0] at h1
  have := hsm.nums _ (getD_mem rs 0 h0)
  omega
theorem times_common {ls : List (List Int)} (h : ls ≠ []) {i : Nat} (hi : i < (commonL ls).length) : timesL ls ((commonL ls).getD i 0) = ls.length := by
  refine (times_all ls _).2 ((mem_common' ls h _).1 ?_)
  rw [List.getD_eq_getElem?_getD, List.getElem?_eq_getElem hi]
  exact List.getElem_mem hi
theorem filter_take (l : List Int) (q : Int → Bool) (k : Nat) (hk : k < l.length) : ((l.take (k + 1)).filter q).length = ((l.take k).filter q).length + if q (l.getD k 0) then 1 else 0 := by
  have hg : l.getD k 0 = l[k] := by rw [List.getD_eq_getElem?_getD, List.getElem?_eq_getElem hk]; rfl
  rw [List.take_add_one, List.getElem?_eq_getElem hk, Option.toList_some, List.filter_append, List.length_append, List.filter_cons, List.filter_nil, hg]
  cases h : q l[k] <;> rfl
end Go.Proofs.Ytgaiedcjcoebeaa
