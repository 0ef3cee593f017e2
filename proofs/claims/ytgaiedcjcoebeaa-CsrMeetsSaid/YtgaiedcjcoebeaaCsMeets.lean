/- The walk of the law CsrMeets. -/
import Derived.Test.YtgaiedcjcoebeaaCsRMeet
set_option linter.unusedVariables false
set_option linter.unusedSimpArgs false
namespace Go.Proofs.Ytgaiedcjcoebeaa
open Go.RowKit

theorem rmeet_reads (A : Option Addr) (rs : List R3) (c : Nat) (w : World) (hr : ReadsL w A rs) (hsm : Small rs) :
    Calls Try.prog 8 #[.slice A rs.length c] w fun e w' => ∃ A' c', e = .returned (.tuple #[.slice A' (meetL (lsOf rs)).length c', .int .i64 (meetE (lsOf rs))]) ∧ ReadsI w' A' (meetL (lsOf rs)) ∧ (meetL (lsOf rs)).length ≤ c' ∧ Below w.heap.size w w' := by
  refine (rmeet_any A rs c w hr hsm).mono ?_
  rintro e w' ⟨v, rfl, ho, hb⟩
  obtain ⟨A', c', rfl, h1, h2⟩ := own_nums ho
  exact ⟨A', c', rfl, h1, h2, hb⟩
set_option maxRecDepth 100000 in
set_option maxHeartbeats 6400000 in
theorem meets_walk (A : Option Addr) (rs : List R3) (c : Nat) (w : World) (hr : ReadsL w A rs) (hsm : Small rs) :
    Calls Try.prog 3 #[.slice A rs.length c] w fun e w' => e = .returned (.bool true) ∧ Below w.heap.size w w' := by
  have hH := fun W => head_any W
  have hM := fun W (h : Below w.heap.size w W) => meet_reads A rs c W (hr.below h) hsm
  have hN := fun W (h : Below w.heap.size w W) => rmeet_reads A rs c W (hr.below h) hsm
  generalize meetL (lsOf rs) = P at hM hN
  generalize meetE (lsOf rs) = E at hM hN
  obtain ⟨m, hm⟩ : ∃ m, m = rs.length := ⟨_, rfl⟩
  rw [← hm] at hM hN ⊢
  clear hr hsm hm
  go_enter Try.func3, Try.ntmps3
  go_wp2_with (go_at_call 6; go_loud (refine (hH _).mono ?_))
  first
    | (intro e W1 he hb1; subst he)
    | rintro e W1 ⟨rfl, hb1⟩
  have HB1 : Below w.heap.size w W1 := by first | exact hb1 | exact below_more hb1
  clear hb1 hH
  go_wp2_with (go_at_call 7; go_loud (refine (hM _ HB1).mono ?_))
  first
    | (intro e W2 A' c' he hrA hca hb2; subst he)
    | rintro e W2 ⟨A', c', rfl, hrA, hca, hb2⟩
  have HB2 := below_then HB1 hb2
  clear hb2 hM HB1
  go_wp2_with (go_at_call 8; go_loud (refine (hN _ HB2).mono ?_))
  first
    | (intro e W3 B' d' he hrB hcb hb3; subst he)
    | rintro e W3 ⟨B', d', rfl, hrB, hcb, hb3⟩
  have HB3 := below_then HB2 hb3
  have hrA3 := hrA.below hb3
  have hS := sameInts_any A' B' P c' d' W3 hrA3 hrB
  clear hb3 hN HB2 hrA
  go_wp2_with (go_at_call 9; go_loud (refine hS.mono ?_))
  first
    | (intro e W4 he hb4; subst he)
    | rintro e W4 ⟨rfl, hb4⟩
  have HB4 := below_then HB3 hb4
  clear hb4 hS HB3
  go_wp2
  go_ret
  exact ⟨by simp, HB4⟩
end Go.Proofs.Ytgaiedcjcoebeaa
