/- The printer's shapeOf: what an Op is written with, Op by Op. -/
import Derived.Test.YtkchpgjjkckfbaaDoorPrHa
set_option linter.unusedVariables false
set_option linter.unusedSimpArgs false
namespace Go.Proofs.YtkchpgjjkckfbaaDoor
open Go.RowKit

set_option maxRecDepth 100000 in
set_option maxHeartbeats 1600000 in
theorem shape_1 (w : World) : Calls Tryd.prog 36 #[.int .i64 1] w (shapeQ ⟨8, [], [], [], []⟩ w) := by
  have hmf : ∀ (fn : Fn) (first cap : Array Value) (w : World), (Instr.makeFunc fn first cap).run Tryd.prog w = .ok (.func fn first cap) w := fun _ _ _ _ => rfl
  go_enter Tryd.func36, Tryd.ntmps36
  go_wp2
  refine bodyPost_ret (v := ?v) (by simp [results, Tryd.results36, go_sem] <;> rfl) rfl ?_
  exact ⟨_, rfl, .inl rfl, (by repeat (first | exact Below.refl _ _ | assumption | apply below_more))⟩
set_option maxRecDepth 100000 in
set_option maxHeartbeats 1600000 in
theorem shape_2 (w : World) : Calls Tryd.prog 36 #[.int .i64 2] w (shapeQ ⟨8, [], [], [], []⟩ w) := by
  have hmf : ∀ (fn : Fn) (first cap : Array Value) (w : World), (Instr.makeFunc fn first cap).run Tryd.prog w = .ok (.func fn first cap) w := fun _ _ _ _ => rfl
  go_enter Tryd.func36, Tryd.ntmps36
  go_wp2
  refine bodyPost_ret (v := ?v) (by simp [results, Tryd.results36, go_sem] <;> rfl) rfl ?_
  exact ⟨_, rfl, .inl rfl, (by repeat (first | exact Below.refl _ _ | assumption | apply below_more))⟩
set_option maxRecDepth 100000 in
set_option maxHeartbeats 1600000 in
theorem shape_3 (w : World) : Calls Tryd.prog 36 #[.int .i64 3] w (shapeQ ⟨8, [], [], [], []⟩ w) := by
  have hmf : ∀ (fn : Fn) (first cap : Array Value) (w : World), (Instr.makeFunc fn first cap).run Tryd.prog w = .ok (.func fn first cap) w := fun _ _ _ _ => rfl
  go_enter Tryd.func36, Tryd.ntmps36
  go_wp2
  refine bodyPost_ret (v := ?v) (by simp [results, Tryd.results36, go_sem] <;> rfl) rfl ?_
  exact ⟨_, rfl, .inl rfl, (by repeat (first | exact Below.refl _ _ | assumption | apply below_more))⟩
set_option maxRecDepth 100000 in
set_option maxHeartbeats 1600000 in
theorem shape_26 (w : World) : Calls Tryd.prog 36 #[.int .i64 26] w (shapeQ ⟨8, [], [67, 79, 85, 78, 84, 40, 42], [], [41]⟩ w) := by
  have hmf : ∀ (fn : Fn) (first cap : Array Value) (w : World), (Instr.makeFunc fn first cap).run Tryd.prog w = .ok (.func fn first cap) w := fun _ _ _ _ => rfl
  go_enter Tryd.func36, Tryd.ntmps36
  go_wp2
  refine bodyPost_ret (v := ?v) (by simp [results, Tryd.results36, go_sem] <;> rfl) rfl ?_
  exact ⟨_, rfl, .inl rfl, (by repeat (first | exact Below.refl _ _ | assumption | apply below_more))⟩
set_option maxRecDepth 100000 in
set_option maxHeartbeats 1600000 in
theorem shape_4 (w : World) : Calls Tryd.prog 36 #[.int .i64 4] w (shapeQ ⟨1, [1, 2], [], [32, 79, 82, 32], []⟩ w) := by
  have hmf : ∀ (fn : Fn) (first cap : Array Value) (w : World), (Instr.makeFunc fn first cap).run Tryd.prog w = .ok (.func fn first cap) w := fun _ _ _ _ => rfl
  go_enter Tryd.func36, Tryd.ntmps36
  go_wp2_with (go_at_call 60; refine (two_4 _ _ _ _ _ _ (by simp [go_sem]) (by simp [go_sem])).mono ?_; rintro e w1 ⟨r, rfl, hlr, hr, hb1⟩; obtain ⟨hc1, hf1⟩ := bcell hb1; have hz1 := hb1.size; simp at hz1 hlr)
  have hblk : w1.heap[w.heap.size + 1]? = some (.cells #[.int .i64 0, .slice none 0 0, .string ⟨#[]⟩, .string ⟨#[]⟩, .string ⟨#[]⟩] 88 (0, 0)) := (hb1.block _ (by simp)).trans ((Lib.alloc_old _ _ _ (by simp)).trans (heap_last (by simp)))
  go_wp2
  refine bodyPost_ret (results_shape rfl (set5 hblk _ _ _ _ _) rfl) rfl ?_
  exact ⟨_, rfl, .inr ⟨r, rfl, set5_other (by omega) hr _ _ _ _ _⟩, set5_below (by omega) (below_then (by repeat (first | exact Below.refl _ _ | apply below_more)) hb1) _ _ _ _ _⟩
set_option maxRecDepth 100000 in
set_option maxHeartbeats 1600000 in
theorem shape_5 (w : World) : Calls Tryd.prog 36 #[.int .i64 5] w (shapeQ ⟨2, [2, 3], [], [32, 65, 78, 68, 32], []⟩ w) := by
  have hmf : ∀ (fn : Fn) (first cap : Array Value) (w : World), (Instr.makeFunc fn first cap).run Tryd.prog w = .ok (.func fn first cap) w := fun _ _ _ _ => rfl
  go_enter Tryd.func36, Tryd.ntmps36
  go_wp2_with (go_at_call 60; refine (two_5 _ _ _ _ _ _ (by simp [go_sem]) (by simp [go_sem])).mono ?_; rintro e w1 ⟨r, rfl, hlr, hr, hb1⟩; obtain ⟨hc1, hf1⟩ := bcell hb1; have hz1 := hb1.size; simp at hz1 hlr)
  have hblk : w1.heap[w.heap.size + 1]? = some (.cells #[.int .i64 0, .slice none 0 0, .string ⟨#[]⟩, .string ⟨#[]⟩, .string ⟨#[]⟩] 88 (0, 0)) := (hb1.block _ (by simp)).trans ((Lib.alloc_old _ _ _ (by simp)).trans (heap_last (by simp)))
  go_wp2
  refine bodyPost_ret (results_shape rfl (set5 hblk _ _ _ _ _) rfl) rfl ?_
  exact ⟨_, rfl, .inr ⟨r, rfl, set5_other (by omega) hr _ _ _ _ _⟩, set5_below (by omega) (below_then (by repeat (first | exact Below.refl _ _ | apply below_more)) hb1) _ _ _ _ _⟩
set_option maxRecDepth 100000 in
set_option maxHeartbeats 1600000 in
theorem shape_6 (w : World) : Calls Tryd.prog 36 #[.int .i64 6] w (shapeQ ⟨4, [5, 5], [], [32, 61, 32], []⟩ w) := by
  have hmf : ∀ (fn : Fn) (first cap : Array Value) (w : World), (Instr.makeFunc fn first cap).run Tryd.prog w = .ok (.func fn first cap) w := fun _ _ _ _ => rfl
  go_enter Tryd.func36, Tryd.ntmps36
  go_wp2_with (go_at_call 60; refine (two_6 _ _ _ _ _ _ (by simp [go_sem]) (by simp [go_sem])).mono ?_; rintro e w1 ⟨r, rfl, hlr, hr, hb1⟩; obtain ⟨hc1, hf1⟩ := bcell hb1; have hz1 := hb1.size; simp at hz1 hlr)
  have hblk : w1.heap[w.heap.size + 1]? = some (.cells #[.int .i64 0, .slice none 0 0, .string ⟨#[]⟩, .string ⟨#[]⟩, .string ⟨#[]⟩] 88 (0, 0)) := (hb1.block _ (by simp)).trans ((Lib.alloc_old _ _ _ (by simp)).trans (heap_last (by simp)))
  go_wp2
  refine bodyPost_ret (results_shape rfl (set5 hblk _ _ _ _ _) rfl) rfl ?_
  exact ⟨_, rfl, .inr ⟨r, rfl, set5_other (by omega) hr _ _ _ _ _⟩, set5_below (by omega) (below_then (by repeat (first | exact Below.refl _ _ | apply below_more)) hb1) _ _ _ _ _⟩
set_option maxRecDepth 100000 in
set_option maxHeartbeats 1600000 in
theorem shape_7 (w : World) : Calls Tryd.prog 36 #[.int .i64 7] w (shapeQ ⟨4, [5, 5], [], [32, 60, 62, 32], []⟩ w) := by
  have hmf : ∀ (fn : Fn) (first cap : Array Value) (w : World), (Instr.makeFunc fn first cap).run Tryd.prog w = .ok (.func fn first cap) w := fun _ _ _ _ => rfl
  go_enter Tryd.func36, Tryd.ntmps36
  go_wp2_with (go_at_call 60; refine (two_7 _ _ _ _ _ _ (by simp [go_sem]) (by simp [go_sem])).mono ?_; rintro e w1 ⟨r, rfl, hlr, hr, hb1⟩; obtain ⟨hc1, hf1⟩ := bcell hb1; have hz1 := hb1.size; simp at hz1 hlr)
  have hblk : w1.heap[w.heap.size + 1]? = some (.cells #[.int .i64 0, .slice none 0 0, .string ⟨#[]⟩, .string ⟨#[]⟩, .string ⟨#[]⟩] 88 (0, 0)) := (hb1.block _ (by simp)).trans ((Lib.alloc_old _ _ _ (by simp)).trans (heap_last (by simp)))
  go_wp2
  refine bodyPost_ret (results_shape rfl (set5 hblk _ _ _ _ _) rfl) rfl ?_
  exact ⟨_, rfl, .inr ⟨r, rfl, set5_other (by omega) hr _ _ _ _ _⟩, set5_below (by omega) (below_then (by repeat (first | exact Below.refl _ _ | apply below_more)) hb1) _ _ _ _ _⟩
end Go.Proofs.YtkchpgjjkckfbaaDoor
