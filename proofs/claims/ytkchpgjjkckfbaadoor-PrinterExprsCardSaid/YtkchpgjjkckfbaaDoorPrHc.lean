/- The printer's shapeOf: what an Op is written with, Op by Op. -/
import Derived.Test.YtkchpgjjkckfbaaDoorPrHa
set_option linter.unusedVariables false
set_option linter.unusedSimpArgs false
namespace Go.Proofs.YtkchpgjjkckfbaaDoor
open Go.RowKit

set_option maxRecDepth 100000 in
set_option maxHeartbeats 1600000 in
theorem shape_8 (w : World) : Calls Tryd.prog 36 #[.int .i64 8] w (shapeQ ⟨4, [5, 5], [], [32, 60, 32], []⟩ w) := by
  have hmf : ∀ (fn : Fn) (first cap : Array Value) (w : World), (Instr.makeFunc fn first cap).run Tryd.prog w = .ok (.func fn first cap) w := fun _ _ _ _ => rfl
  go_enter Tryd.func36, Tryd.ntmps36
  go_wp2_with (go_at_call 60; refine (two_8 _ _ _ _ _ _ (by simp [go_sem]) (by simp [go_sem])).mono ?_; rintro e w1 ⟨r, rfl, hlr, hr, hb1⟩; obtain ⟨hc1, hf1⟩ := bcell hb1; have hz1 := hb1.size; simp at hz1 hlr)
  have hblk : w1.heap[w.heap.size + 1]? = some (.cells #[.int .i64 0, .slice none 0 0, .string ⟨#[]⟩, .string ⟨#[]⟩, .string ⟨#[]⟩] 88 (0, 0)) := (hb1.block _ (by simp)).trans ((Lib.alloc_old _ _ _ (by simp)).trans (heap_last (by simp)))
  go_wp2
  refine bodyPost_ret (results_shape rfl (set5 hblk _ _ _ _ _) rfl) rfl ?_
  exact ⟨_, rfl, .inr ⟨r, rfl, set5_other (by omega) hr _ _ _ _ _⟩, set5_below (by omega) (below_then (by repeat (first | exact Below.refl _ _ | apply below_more)) hb1) _ _ _ _ _⟩
set_option maxRecDepth 100000 in
set_option maxHeartbeats 1600000 in
theorem shape_9 (w : World) : Calls Tryd.prog 36 #[.int .i64 9] w (shapeQ ⟨4, [5, 5], [], [32, 60, 61, 32], []⟩ w) := by
  have hmf : ∀ (fn : Fn) (first cap : Array Value) (w : World), (Instr.makeFunc fn first cap).run Tryd.prog w = .ok (.func fn first cap) w := fun _ _ _ _ => rfl
  go_enter Tryd.func36, Tryd.ntmps36
  go_wp2_with (go_at_call 60; refine (two_9 _ _ _ _ _ _ (by simp [go_sem]) (by simp [go_sem])).mono ?_; rintro e w1 ⟨r, rfl, hlr, hr, hb1⟩; obtain ⟨hc1, hf1⟩ := bcell hb1; have hz1 := hb1.size; simp at hz1 hlr)
  have hblk : w1.heap[w.heap.size + 1]? = some (.cells #[.int .i64 0, .slice none 0 0, .string ⟨#[]⟩, .string ⟨#[]⟩, .string ⟨#[]⟩] 88 (0, 0)) := (hb1.block _ (by simp)).trans ((Lib.alloc_old _ _ _ (by simp)).trans (heap_last (by simp)))
  go_wp2
  refine bodyPost_ret (results_shape rfl (set5 hblk _ _ _ _ _) rfl) rfl ?_
  exact ⟨_, rfl, .inr ⟨r, rfl, set5_other (by omega) hr _ _ _ _ _⟩, set5_below (by omega) (below_then (by repeat (first | exact Below.refl _ _ | apply below_more)) hb1) _ _ _ _ _⟩
set_option maxRecDepth 100000 in
set_option maxHeartbeats 1600000 in
theorem shape_10 (w : World) : Calls Tryd.prog 36 #[.int .i64 10] w (shapeQ ⟨4, [5, 5], [], [32, 62, 32], []⟩ w) := by
  have hmf : ∀ (fn : Fn) (first cap : Array Value) (w : World), (Instr.makeFunc fn first cap).run Tryd.prog w = .ok (.func fn first cap) w := fun _ _ _ _ => rfl
  go_enter Tryd.func36, Tryd.ntmps36
  go_wp2_with (go_at_call 60; refine (two_10 _ _ _ _ _ _ (by simp [go_sem]) (by simp [go_sem])).mono ?_; rintro e w1 ⟨r, rfl, hlr, hr, hb1⟩; obtain ⟨hc1, hf1⟩ := bcell hb1; have hz1 := hb1.size; simp at hz1 hlr)
  have hblk : w1.heap[w.heap.size + 1]? = some (.cells #[.int .i64 0, .slice none 0 0, .string ⟨#[]⟩, .string ⟨#[]⟩, .string ⟨#[]⟩] 88 (0, 0)) := (hb1.block _ (by simp)).trans ((Lib.alloc_old _ _ _ (by simp)).trans (heap_last (by simp)))
  go_wp2
  refine bodyPost_ret (results_shape rfl (set5 hblk _ _ _ _ _) rfl) rfl ?_
  exact ⟨_, rfl, .inr ⟨r, rfl, set5_other (by omega) hr _ _ _ _ _⟩, set5_below (by omega) (below_then (by repeat (first | exact Below.refl _ _ | apply below_more)) hb1) _ _ _ _ _⟩
set_option maxRecDepth 100000 in
set_option maxHeartbeats 1600000 in
theorem shape_11 (w : World) : Calls Tryd.prog 36 #[.int .i64 11] w (shapeQ ⟨4, [5, 5], [], [32, 62, 61, 32], []⟩ w) := by
  have hmf : ∀ (fn : Fn) (first cap : Array Value) (w : World), (Instr.makeFunc fn first cap).run Tryd.prog w = .ok (.func fn first cap) w := fun _ _ _ _ => rfl
  go_enter Tryd.func36, Tryd.ntmps36
  go_wp2_with (go_at_call 60; refine (two_11 _ _ _ _ _ _ (by simp [go_sem]) (by simp [go_sem])).mono ?_; rintro e w1 ⟨r, rfl, hlr, hr, hb1⟩; obtain ⟨hc1, hf1⟩ := bcell hb1; have hz1 := hb1.size; simp at hz1 hlr)
  have hblk : w1.heap[w.heap.size + 1]? = some (.cells #[.int .i64 0, .slice none 0 0, .string ⟨#[]⟩, .string ⟨#[]⟩, .string ⟨#[]⟩] 88 (0, 0)) := (hb1.block _ (by simp)).trans ((Lib.alloc_old _ _ _ (by simp)).trans (heap_last (by simp)))
  go_wp2
  refine bodyPost_ret (results_shape rfl (set5 hblk _ _ _ _ _) rfl) rfl ?_
  exact ⟨_, rfl, .inr ⟨r, rfl, set5_other (by omega) hr _ _ _ _ _⟩, set5_below (by omega) (below_then (by repeat (first | exact Below.refl _ _ | apply below_more)) hb1) _ _ _ _ _⟩
set_option maxRecDepth 100000 in
set_option maxHeartbeats 1600000 in
theorem shape_12 (w : World) : Calls Tryd.prog 36 #[.int .i64 12] w (shapeQ ⟨5, [5, 6], [], [32, 43, 32], []⟩ w) := by
  have hmf : ∀ (fn : Fn) (first cap : Array Value) (w : World), (Instr.makeFunc fn first cap).run Tryd.prog w = .ok (.func fn first cap) w := fun _ _ _ _ => rfl
  go_enter Tryd.func36, Tryd.ntmps36
  go_wp2_with (go_at_call 60; refine (two_12 _ _ _ _ _ _ (by simp [go_sem]) (by simp [go_sem])).mono ?_; rintro e w1 ⟨r, rfl, hlr, hr, hb1⟩; obtain ⟨hc1, hf1⟩ := bcell hb1; have hz1 := hb1.size; simp at hz1 hlr)
  have hblk : w1.heap[w.heap.size + 1]? = some (.cells #[.int .i64 0, .slice none 0 0, .string ⟨#[]⟩, .string ⟨#[]⟩, .string ⟨#[]⟩] 88 (0, 0)) := (hb1.block _ (by simp)).trans ((Lib.alloc_old _ _ _ (by simp)).trans (heap_last (by simp)))
  go_wp2
  refine bodyPost_ret (results_shape rfl (set5 hblk _ _ _ _ _) rfl) rfl ?_
  exact ⟨_, rfl, .inr ⟨r, rfl, set5_other (by omega) hr _ _ _ _ _⟩, set5_below (by omega) (below_then (by repeat (first | exact Below.refl _ _ | apply below_more)) hb1) _ _ _ _ _⟩
set_option maxRecDepth 100000 in
set_option maxHeartbeats 1600000 in
theorem shape_13 (w : World) : Calls Tryd.prog 36 #[.int .i64 13] w (shapeQ ⟨5, [5, 6], [], [32, 45, 32], []⟩ w) := by
  have hmf : ∀ (fn : Fn) (first cap : Array Value) (w : World), (Instr.makeFunc fn first cap).run Tryd.prog w = .ok (.func fn first cap) w := fun _ _ _ _ => rfl
  go_enter Tryd.func36, Tryd.ntmps36
  go_wp2_with (go_at_call 60; refine (two_13 _ _ _ _ _ _ (by simp [go_sem]) (by simp [go_sem])).mono ?_; rintro e w1 ⟨r, rfl, hlr, hr, hb1⟩; obtain ⟨hc1, hf1⟩ := bcell hb1; have hz1 := hb1.size; simp at hz1 hlr)
  have hblk : w1.heap[w.heap.size + 1]? = some (.cells #[.int .i64 0, .slice none 0 0, .string ⟨#[]⟩, .string ⟨#[]⟩, .string ⟨#[]⟩] 88 (0, 0)) := (hb1.block _ (by simp)).trans ((Lib.alloc_old _ _ _ (by simp)).trans (heap_last (by simp)))
  go_wp2
  refine bodyPost_ret (results_shape rfl (set5 hblk _ _ _ _ _) rfl) rfl ?_
  exact ⟨_, rfl, .inr ⟨r, rfl, set5_other (by omega) hr _ _ _ _ _⟩, set5_below (by omega) (below_then (by repeat (first | exact Below.refl _ _ | apply below_more)) hb1) _ _ _ _ _⟩
set_option maxRecDepth 100000 in
set_option maxHeartbeats 1600000 in
theorem shape_14 (w : World) : Calls Tryd.prog 36 #[.int .i64 14] w (shapeQ ⟨6, [6, 7], [], [32, 42, 32], []⟩ w) := by
  have hmf : ∀ (fn : Fn) (first cap : Array Value) (w : World), (Instr.makeFunc fn first cap).run Tryd.prog w = .ok (.func fn first cap) w := fun _ _ _ _ => rfl
  go_enter Tryd.func36, Tryd.ntmps36
  go_wp2_with (go_at_call 60; refine (two_14 _ _ _ _ _ _ (by simp [go_sem]) (by simp [go_sem])).mono ?_; rintro e w1 ⟨r, rfl, hlr, hr, hb1⟩; obtain ⟨hc1, hf1⟩ := bcell hb1; have hz1 := hb1.size; simp at hz1 hlr)
  have hblk : w1.heap[w.heap.size + 1]? = some (.cells #[.int .i64 0, .slice none 0 0, .string ⟨#[]⟩, .string ⟨#[]⟩, .string ⟨#[]⟩] 88 (0, 0)) := (hb1.block _ (by simp)).trans ((Lib.alloc_old _ _ _ (by simp)).trans (heap_last (by simp)))
  go_wp2
  refine bodyPost_ret (results_shape rfl (set5 hblk _ _ _ _ _) rfl) rfl ?_
  exact ⟨_, rfl, .inr ⟨r, rfl, set5_other (by omega) hr _ _ _ _ _⟩, set5_below (by omega) (below_then (by repeat (first | exact Below.refl _ _ | apply below_more)) hb1) _ _ _ _ _⟩
end Go.Proofs.YtkchpgjjkckfbaaDoor
