/- The printer's shapeOf: what an Op is written with, Op by Op. -/
import Derived.Test.YtkchpgjjkckfbaaDoorPrHa
set_option linter.unusedVariables false
set_option linter.unusedSimpArgs false
namespace Go.Proofs.YtkchpgjjkckfbaaDoor
open Go.RowKit

set_option maxRecDepth 100000 in
set_option maxHeartbeats 1600000 in
theorem shape_15 (w : World) : Calls Tryd.prog 36 #[.int .i64 15] w (shapeQ ⟨6, [6, 7], [], [32, 47, 32], []⟩ w) := by
  have hmf : ∀ (fn : Fn) (first cap : Array Value) (w : World), (Instr.makeFunc fn first cap).run Tryd.prog w = .ok (.func fn first cap) w := fun _ _ _ _ => rfl
  go_enter Tryd.func36, Tryd.ntmps36
  go_wp2_with (go_at_call 60; refine (two_15 _ _ _ _ _ _ (by simp [go_sem]) (by simp [go_sem])).mono ?_; rintro e w1 ⟨r, rfl, hlr, hr, hb1⟩; obtain ⟨hc1, hf1⟩ := bcell hb1; have hz1 := hb1.size; simp at hz1 hlr)
  have hblk : w1.heap[w.heap.size + 1]? = some (.cells #[.int .i64 0, .slice none 0 0, .string ⟨#[]⟩, .string ⟨#[]⟩, .string ⟨#[]⟩] 88 (0, 0)) := (hb1.block _ (by simp)).trans ((Lib.alloc_old _ _ _ (by simp)).trans (heap_last (by simp)))
  go_wp2
  refine bodyPost_ret (results_shape rfl (set5 hblk _ _ _ _ _) rfl) rfl ?_
  exact ⟨_, rfl, .inr ⟨r, rfl, set5_other (by omega) hr _ _ _ _ _⟩, set5_below (by omega) (below_then (by repeat (first | exact Below.refl _ _ | apply below_more)) hb1) _ _ _ _ _⟩
set_option maxRecDepth 100000 in
set_option maxHeartbeats 1600000 in
theorem shape_16 (w : World) : Calls Tryd.prog 36 #[.int .i64 16] w (shapeQ ⟨6, [6, 7], [], [32, 37, 32], []⟩ w) := by
  have hmf : ∀ (fn : Fn) (first cap : Array Value) (w : World), (Instr.makeFunc fn first cap).run Tryd.prog w = .ok (.func fn first cap) w := fun _ _ _ _ => rfl
  go_enter Tryd.func36, Tryd.ntmps36
  go_wp2_with (go_at_call 60; refine (two_16 _ _ _ _ _ _ (by simp [go_sem]) (by simp [go_sem])).mono ?_; rintro e w1 ⟨r, rfl, hlr, hr, hb1⟩; obtain ⟨hc1, hf1⟩ := bcell hb1; have hz1 := hb1.size; simp at hz1 hlr)
  have hblk : w1.heap[w.heap.size + 1]? = some (.cells #[.int .i64 0, .slice none 0 0, .string ⟨#[]⟩, .string ⟨#[]⟩, .string ⟨#[]⟩] 88 (0, 0)) := (hb1.block _ (by simp)).trans ((Lib.alloc_old _ _ _ (by simp)).trans (heap_last (by simp)))
  go_wp2
  refine bodyPost_ret (results_shape rfl (set5 hblk _ _ _ _ _) rfl) rfl ?_
  exact ⟨_, rfl, .inr ⟨r, rfl, set5_other (by omega) hr _ _ _ _ _⟩, set5_below (by omega) (below_then (by repeat (first | exact Below.refl _ _ | apply below_more)) hb1) _ _ _ _ _⟩
set_option maxRecDepth 100000 in
set_option maxHeartbeats 1600000 in
theorem shape_17 (w : World) : Calls Tryd.prog 36 #[.int .i64 17] w (shapeQ ⟨3, [3], [78, 79, 84, 32], [], []⟩ w) := by
  have hmf : ∀ (fn : Fn) (first cap : Array Value) (w : World), (Instr.makeFunc fn first cap).run Tryd.prog w = .ok (.func fn first cap) w := fun _ _ _ _ => rfl
  go_enter Tryd.func36, Tryd.ntmps36
  go_wp2
  refine bodyPost_ret (v := ?v) (by simp [results, Tryd.results36, go_sem] <;> rfl) rfl ?_
  exact ⟨_, rfl, .inr ⟨_, rfl, heap_last (by simp)⟩, (by repeat (first | exact Below.refl _ _ | assumption | apply below_more))⟩
set_option maxRecDepth 100000 in
set_option maxHeartbeats 1600000 in
theorem shape_18 (w : World) : Calls Tryd.prog 36 #[.int .i64 18] w (shapeQ ⟨7, [7], [45], [], []⟩ w) := by
  have hmf : ∀ (fn : Fn) (first cap : Array Value) (w : World), (Instr.makeFunc fn first cap).run Tryd.prog w = .ok (.func fn first cap) w := fun _ _ _ _ => rfl
  go_enter Tryd.func36, Tryd.ntmps36
  go_wp2
  refine bodyPost_ret (v := ?v) (by simp [results, Tryd.results36, go_sem] <;> rfl) rfl ?_
  exact ⟨_, rfl, .inr ⟨_, rfl, heap_last (by simp)⟩, (by repeat (first | exact Below.refl _ _ | assumption | apply below_more))⟩
set_option maxRecDepth 100000 in
set_option maxHeartbeats 1600000 in
theorem shape_19 (w : World) : Calls Tryd.prog 36 #[.int .i64 19] w (shapeQ ⟨4, [5], [], [], [32, 73, 83, 32, 78, 85, 76, 76]⟩ w) := by
  have hmf : ∀ (fn : Fn) (first cap : Array Value) (w : World), (Instr.makeFunc fn first cap).run Tryd.prog w = .ok (.func fn first cap) w := fun _ _ _ _ => rfl
  go_enter Tryd.func36, Tryd.ntmps36
  go_wp2
  refine bodyPost_ret (v := ?v) (by simp [results, Tryd.results36, go_sem] <;> rfl) rfl ?_
  exact ⟨_, rfl, .inr ⟨_, rfl, heap_last (by simp)⟩, (by repeat (first | exact Below.refl _ _ | assumption | apply below_more))⟩
set_option maxRecDepth 100000 in
set_option maxHeartbeats 1600000 in
theorem shape_20 (w : World) : Calls Tryd.prog 36 #[.int .i64 20] w (shapeQ ⟨4, [5], [], [], [32, 73, 83, 32, 78, 79, 84, 32, 78, 85, 76, 76]⟩ w) := by
  have hmf : ∀ (fn : Fn) (first cap : Array Value) (w : World), (Instr.makeFunc fn first cap).run Tryd.prog w = .ok (.func fn first cap) w := fun _ _ _ _ => rfl
  go_enter Tryd.func36, Tryd.ntmps36
  go_wp2
  refine bodyPost_ret (v := ?v) (by simp [results, Tryd.results36, go_sem] <;> rfl) rfl ?_
  exact ⟨_, rfl, .inr ⟨_, rfl, heap_last (by simp)⟩, (by repeat (first | exact Below.refl _ _ | assumption | apply below_more))⟩
set_option maxRecDepth 100000 in
set_option maxHeartbeats 1600000 in
theorem shape_21 (w : World) : Calls Tryd.prog 36 #[.int .i64 21] w (shapeQ ⟨8, [1], [76, 69, 78, 71, 84, 72, 40], [], [41]⟩ w) := by
  have hmf : ∀ (fn : Fn) (first cap : Array Value) (w : World), (Instr.makeFunc fn first cap).run Tryd.prog w = .ok (.func fn first cap) w := fun _ _ _ _ => rfl
  go_enter Tryd.func36, Tryd.ntmps36
  go_wp2_with (go_at_call 59; refine (call_21 _).mono ?_; rintro e w1 ⟨r, rfl, hlr, hr, hb1⟩; obtain ⟨hc1, hf1⟩ := bcell hb1; have hz1 := hb1.size; simp at hz1 hlr)
  have hblk : w1.heap[w.heap.size + 1]? = some (.cells #[.int .i64 0, .slice none 0 0, .string ⟨#[]⟩, .string ⟨#[]⟩, .string ⟨#[]⟩] 88 (0, 0)) := (hb1.block _ (by simp)).trans ((Lib.alloc_old _ _ _ (by simp)).trans (heap_last (by simp)))
  go_wp2
  refine bodyPost_ret (results_shape rfl (set5 hblk _ _ _ _ _) rfl) rfl ?_
  exact ⟨_, rfl, .inr ⟨r, rfl, set5_other (by omega) hr _ _ _ _ _⟩, set5_below (by omega) (below_then (by repeat (first | exact Below.refl _ _ | apply below_more)) hb1) _ _ _ _ _⟩
end Go.Proofs.YtkchpgjjkckfbaaDoor
