/- The printer's shapeOf: what an Op is written with, Op by Op. -/
import Derived.Test.YtkchpgjjkckfbaaDoorPrHa
set_option linter.unusedVariables false
set_option linter.unusedSimpArgs false
namespace Go.Proofs.YtkchpgjjkckfbaaDoor
open Go.RowKit

set_option maxRecDepth 100000 in
set_option maxHeartbeats 1600000 in
theorem shape_22 (w : World) : Calls Tryd.prog 36 #[.int .i64 22] w (shapeQ ⟨8, [1], [67, 79, 85, 78, 84, 40], [], [41]⟩ w) := by
  have hmf : ∀ (fn : Fn) (first cap : Array Value) (w : World), (Instr.makeFunc fn first cap).run Tryd.prog w = .ok (.func fn first cap) w := fun _ _ _ _ => rfl
  go_enter Tryd.func36, Tryd.ntmps36
  go_wp2_with (go_at_call 59; refine (call_22 _).mono ?_; rintro e w1 ⟨r, rfl, hlr, hr, hb1⟩; obtain ⟨hc1, hf1⟩ := bcell hb1; have hz1 := hb1.size; simp at hz1 hlr)
  have hblk : w1.heap[w.heap.size + 1]? = some (.cells #[.int .i64 0, .slice none 0 0, .string ⟨#[]⟩, .string ⟨#[]⟩, .string ⟨#[]⟩] 88 (0, 0)) := (hb1.block _ (by simp)).trans ((Lib.alloc_old _ _ _ (by simp)).trans (heap_last (by simp)))
  go_wp2
  refine bodyPost_ret (results_shape rfl (set5 hblk _ _ _ _ _) rfl) rfl ?_
  exact ⟨_, rfl, .inr ⟨r, rfl, set5_other (by omega) hr _ _ _ _ _⟩, set5_below (by omega) (below_then (by repeat (first | exact Below.refl _ _ | apply below_more)) hb1) _ _ _ _ _⟩
set_option maxRecDepth 100000 in
set_option maxHeartbeats 1600000 in
theorem shape_23 (w : World) : Calls Tryd.prog 36 #[.int .i64 23] w (shapeQ ⟨8, [1], [83, 85, 77, 40], [], [41]⟩ w) := by
  have hmf : ∀ (fn : Fn) (first cap : Array Value) (w : World), (Instr.makeFunc fn first cap).run Tryd.prog w = .ok (.func fn first cap) w := fun _ _ _ _ => rfl
  go_enter Tryd.func36, Tryd.ntmps36
  go_wp2_with (go_at_call 59; refine (call_23 _).mono ?_; rintro e w1 ⟨r, rfl, hlr, hr, hb1⟩; obtain ⟨hc1, hf1⟩ := bcell hb1; have hz1 := hb1.size; simp at hz1 hlr)
  have hblk : w1.heap[w.heap.size + 1]? = some (.cells #[.int .i64 0, .slice none 0 0, .string ⟨#[]⟩, .string ⟨#[]⟩, .string ⟨#[]⟩] 88 (0, 0)) := (hb1.block _ (by simp)).trans ((Lib.alloc_old _ _ _ (by simp)).trans (heap_last (by simp)))
  go_wp2
  refine bodyPost_ret (results_shape rfl (set5 hblk _ _ _ _ _) rfl) rfl ?_
  exact ⟨_, rfl, .inr ⟨r, rfl, set5_other (by omega) hr _ _ _ _ _⟩, set5_below (by omega) (below_then (by repeat (first | exact Below.refl _ _ | apply below_more)) hb1) _ _ _ _ _⟩
set_option maxRecDepth 100000 in
set_option maxHeartbeats 1600000 in
theorem shape_24 (w : World) : Calls Tryd.prog 36 #[.int .i64 24] w (shapeQ ⟨8, [1], [77, 73, 78, 40], [], [41]⟩ w) := by
  have hmf : ∀ (fn : Fn) (first cap : Array Value) (w : World), (Instr.makeFunc fn first cap).run Tryd.prog w = .ok (.func fn first cap) w := fun _ _ _ _ => rfl
  go_enter Tryd.func36, Tryd.ntmps36
  go_wp2_with (go_at_call 59; refine (call_24 _).mono ?_; rintro e w1 ⟨r, rfl, hlr, hr, hb1⟩; obtain ⟨hc1, hf1⟩ := bcell hb1; have hz1 := hb1.size; simp at hz1 hlr)
  have hblk : w1.heap[w.heap.size + 1]? = some (.cells #[.int .i64 0, .slice none 0 0, .string ⟨#[]⟩, .string ⟨#[]⟩, .string ⟨#[]⟩] 88 (0, 0)) := (hb1.block _ (by simp)).trans ((Lib.alloc_old _ _ _ (by simp)).trans (heap_last (by simp)))
  go_wp2
  refine bodyPost_ret (results_shape rfl (set5 hblk _ _ _ _ _) rfl) rfl ?_
  exact ⟨_, rfl, .inr ⟨r, rfl, set5_other (by omega) hr _ _ _ _ _⟩, set5_below (by omega) (below_then (by repeat (first | exact Below.refl _ _ | apply below_more)) hb1) _ _ _ _ _⟩
set_option maxRecDepth 100000 in
set_option maxHeartbeats 1600000 in
theorem shape_25 (w : World) : Calls Tryd.prog 36 #[.int .i64 25] w (shapeQ ⟨8, [1], [77, 65, 88, 40], [], [41]⟩ w) := by
  have hmf : ∀ (fn : Fn) (first cap : Array Value) (w : World), (Instr.makeFunc fn first cap).run Tryd.prog w = .ok (.func fn first cap) w := fun _ _ _ _ => rfl
  go_enter Tryd.func36, Tryd.ntmps36
  go_wp2_with (go_at_call 59; refine (call_25 _).mono ?_; rintro e w1 ⟨r, rfl, hlr, hr, hb1⟩; obtain ⟨hc1, hf1⟩ := bcell hb1; have hz1 := hb1.size; simp at hz1 hlr)
  have hblk : w1.heap[w.heap.size + 1]? = some (.cells #[.int .i64 0, .slice none 0 0, .string ⟨#[]⟩, .string ⟨#[]⟩, .string ⟨#[]⟩] 88 (0, 0)) := (hb1.block _ (by simp)).trans ((Lib.alloc_old _ _ _ (by simp)).trans (heap_last (by simp)))
  go_wp2
  refine bodyPost_ret (results_shape rfl (set5 hblk _ _ _ _ _) rfl) rfl ?_
  exact ⟨_, rfl, .inr ⟨r, rfl, set5_other (by omega) hr _ _ _ _ _⟩, set5_below (by omega) (below_then (by repeat (first | exact Below.refl _ _ | apply below_more)) hb1) _ _ _ _ _⟩
set_option maxRecDepth 100000 in
set_option maxHeartbeats 1600000 in
theorem shape_none (k : Int) (e1 : (k == 1) = false) (e2 : (k == 2) = false) (e3 : (k == 3) = false) (e4 : (k == 4) = false) (e5 : (k == 5) = false) (e6 : (k == 6) = false) (e7 : (k == 7) = false) (e8 : (k == 8) = false) (e9 : (k == 9) = false) (e10 : (k == 10) = false) (e11 : (k == 11) = false) (e12 : (k == 12) = false) (e13 : (k == 13) = false) (e14 : (k == 14) = false) (e15 : (k == 15) = false) (e16 : (k == 16) = false) (e17 : (k == 17) = false) (e18 : (k == 18) = false) (e19 : (k == 19) = false) (e20 : (k == 20) = false) (e21 : (k == 21) = false) (e22 : (k == 22) = false) (e23 : (k == 23) = false) (e24 : (k == 24) = false) (e25 : (k == 25) = false) (e26 : (k == 26) = false) (w : World) : Calls Tryd.prog 36 #[.int .i64 k] w (shapeQ Shp.zero w) := by
  have hlo : k < 1 ∨ 26 < k := by
    have : ∀ i : Int, (k == i) = false → ¬ k = i := fun i h => beq_eq_false_iff_ne.1 h
    have n1 := this _ e1
    have n2 := this _ e2
    have n3 := this _ e3
    have n4 := this _ e4
    have n5 := this _ e5
    have n6 := this _ e6
    have n7 := this _ e7
    have n8 := this _ e8
    have n9 := this _ e9
    have n10 := this _ e10
    have n11 := this _ e11
    have n12 := this _ e12
    have n13 := this _ e13
    have n14 := this _ e14
    have n15 := this _ e15
    have n16 := this _ e16
    have n17 := this _ e17
    have n18 := this _ e18
    have n19 := this _ e19
    have n20 := this _ e20
    have n21 := this _ e21
    have n22 := this _ e22
    have n23 := this _ e23
    have n24 := this _ e24
    have n25 := this _ e25
    have n26 := this _ e26
    omega
  have hmf : ∀ (fn : Fn) (first cap : Array Value) (w : World), (Instr.makeFunc fn first cap).run Tryd.prog w = .ok (.func fn first cap) w := fun _ _ _ _ => rfl
  rcases hlo with hlo | hlo
  · have a1 : ¬ 6 ≤ k := by omega
    have a2 : ¬ 14 ≤ k := by omega
    have a3 : k ≤ 11 := by omega
    have a4 : k ≤ 16 := by omega
    clear hlo
    go_enter Tryd.func36, Tryd.ntmps36
    go_wp2
    refine bodyPost_ret (v := ?v) (by simp [results, Tryd.results36, go_sem] <;> rfl) rfl ?_
    exact ⟨none, rfl, .inl rfl, (by repeat (first | exact Below.refl _ _ | assumption | apply below_more))⟩
  · have a1 : 6 ≤ k := by omega
    have a2 : 14 ≤ k := by omega
    have a3 : ¬ k ≤ 11 := by omega
    have a4 : ¬ k ≤ 16 := by omega
    clear hlo
    go_enter Tryd.func36, Tryd.ntmps36
    go_wp2
    refine bodyPost_ret (v := ?v) (by simp [results, Tryd.results36, go_sem] <;> rfl) rfl ?_
    exact ⟨none, rfl, .inl rfl, (by repeat (first | exact Below.refl _ _ | assumption | apply below_more))⟩
end Go.Proofs.YtkchpgjjkckfbaaDoor
