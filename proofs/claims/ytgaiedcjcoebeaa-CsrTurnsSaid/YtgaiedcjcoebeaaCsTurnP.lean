/- Lists turned round, and one of them once more: what csr.Meet answers for them. -/
import Derived.Test.YtgaiedcjcoebeaaCsRows
set_option linter.unusedVariables false
set_option linter.unusedSimpArgs false
namespace Go.Proofs.Ytgaiedcjcoebeaa
open Go.RowKit

theorem meet_up {ls : List (List Int)} (hne : ls ≠ []) (hu : ∀ l ∈ ls, Up l) : meetE ls = 0 ∧ meetL ls = commonL ls := by
  rcases meet_cases ls with ⟨h, _⟩ | ⟨h, _⟩ | ⟨h, _, _, h2⟩
  · unfold meetE at h; rw [if_neg hne, if_pos ((upAll_iff ls).2 hu)] at h; exact absurd h (by decide)
  · unfold meetE at h; rw [if_neg hne, if_pos ((upAll_iff ls).2 hu)] at h; exact absurd h (by decide)
  · exact ⟨h, h2⟩
theorem turn_meet (rs : List R3) (n : Nat) (hn : n < rs.length) (hu : ∀ l ∈ lsOf rs, Up l) : meetE (lsOf (rs.drop n ++ rs.take n)) = 0 ∧ meetL (lsOf (rs.drop n ++ rs.take n)) = commonL (lsOf rs) := by
  have e : lsOf (rs.drop n ++ rs.take n) = (lsOf rs).drop n ++ (lsOf rs).take n := by simp [lsOf, List.map_drop, List.map_take]
  rw [e]
  have hl : n < (lsOf rs).length := by simpa [lsOf] using hn
  have h := meet_up (ls := (lsOf rs).drop n ++ (lsOf rs).take n) (by
    intro h0
    have := congrArg List.length h0
    simp at this
    omega) (fun l hl => by
    rw [List.mem_append] at hl
    rcases hl with h | h
    · exact hu l (List.mem_of_mem_drop h)
    · exact hu l (List.mem_of_mem_take h))
  exact ⟨h.1, h.2.trans (common_turn _ n hl hu)⟩
theorem twice_meet (rs : List R3) (n : Nat) (hn : n < rs.length) (hu : ∀ l ∈ lsOf rs, Up l) : meetE (lsOf (rs.drop n ++ rs.take n ++ [rs.getD n r30])) = 0 ∧ meetL (lsOf (rs.drop n ++ rs.take n ++ [rs.getD n r30])) = commonL (lsOf rs) := by
  have hl : n < (lsOf rs).length := by simpa [lsOf] using hn
  have e : lsOf (rs.drop n ++ rs.take n ++ [rs.getD n r30]) = (lsOf rs).drop n ++ (lsOf rs).take n ++ [(lsOf rs).getD n []] := by
    rw [lsOf_getD rs n hn]
    simp [lsOf, List.map_drop, List.map_take]
  rw [e]
  have hg : (lsOf rs).getD n [] ∈ lsOf rs := by
    rw [List.getD_eq_getElem?_getD, List.getElem?_eq_getElem hl]
    exact List.getElem_mem hl
  have h := meet_up (ls := (lsOf rs).drop n ++ (lsOf rs).take n ++ [(lsOf rs).getD n []]) (by simp) (fun l hl => by
    rw [List.mem_append, List.mem_append] at hl
    rcases hl with (h | h) | h
    · exact hu l (List.mem_of_mem_drop h)
    · exact hu l (List.mem_of_mem_take h)
    · simp only [List.mem_singleton] at h
      rw [h]; exact hu _ hg)
  exact ⟨h.1, h.2.trans (common_twice _ n hl hu)⟩
theorem add_add (ad : Addr) (i j : Nat) : (ad.add i).add j = ad.add (i + j) := by
  simp only [Addr.add]
  repeat' split
  all_goals first | rfl | omega | (simp [Nat.add_assoc]; done) | (simp_all; done)
theorem cell_new (X : World) (v : Value) (t : TypeId) : (X.alloc (.cells #[v] t)).cell? ⟨X.heap.size, 0, none⟩ = some v := by
  rw [cell_at (heap_alloc_new X _)]
  rfl
theorem cell_alloc {X : World} {q : Addr} {v : Value} (h : X.cell? q = some v) (o : Obj) : (X.alloc o).cell? q = some v :=
  (((Below.refl X.heap.size X).alloc (Nat.le_refl _) o).cell (World.block_lt_of_cell? X _ h)).trans h
theorem meet_one (r : R3) (Y : World) (hr : ReadsI Y r.A r.l) (hc : r.l.length ≤ r.c) (hs : r.l.length ≤ 17592186044416) (hu : Up r.l) :
    Calls Try.prog 7 #[.slice (some ⟨Y.heap.size, 0, none⟩) 1 1] (Y.alloc (.cells #[r.val] 24)) fun e w' => ∃ A' c', e = .returned (.tuple #[.slice A' r.l.length c', .int .i64 0]) ∧ ReadsI w' A' r.l ∧ Below Y.heap.size Y w' := by
  have hb : Below Y.heap.size Y (Y.alloc (.cells #[r.val] 24)) := (Below.refl _ _).alloc (Nat.le_refl _) _
  have hr2 : ReadsL (Y.alloc (.cells #[r.val] 24)) (some ⟨Y.heap.size, 0, none⟩) [r] := by
    refine ⟨by simp, fun j hj => ⟨_, rfl, by simp, ?_⟩, fun x hx => ?_, fun x hx => ?_⟩
    · obtain rfl : j = 0 := by simpa using hj
      rw [addr_none]
      exact cell_new Y _ _
    · simp only [List.mem_singleton] at hx; subst hx; exact hr.below hb
    · simp only [List.mem_singleton] at hx; subst hx; exact hc
  have hm := meet_reads (some ⟨Y.heap.size, 0, none⟩) [r] 1 _ hr2 ⟨by simp, fun x hx => by simp only [List.mem_singleton] at hx; subst hx; exact hs⟩
  have h1 := meet_up (ls := lsOf [r]) (by simp [lsOf]) (fun l hl => by simp [lsOf] at hl; subst hl; exact hu)
  have h2 : commonL (lsOf [r]) = r.l := common_one r.l
  rw [h1.1, h1.2, h2] at hm
  refine hm.mono ?_
  rintro e w' ⟨A', c', rfl, h3, _, h4⟩
  exact ⟨A', c', rfl, h3, below_then hb h4⟩
end Go.Proofs.Ytgaiedcjcoebeaa
