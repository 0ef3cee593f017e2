/- The head of the laws on graphs as they are handed in: the head itself. -/
import Derived.Test.YtffifhinhemkdaaDoorRgHd2
set_option linter.unusedVariables false
set_option linter.unusedSimpArgs false
namespace Go.Proofs.YtffifhinhemkdaaDoor
open Go.RowKit Go.Maps

set_option maxRecDepth 100000 in
set_option maxHeartbeats 3200000 in
theorem head_any (w : World) : Calls Tryd.prog 5 #[] w fun e w' => e = .returned (.bool true) ∧ Below w.heap.size w w' := by
  obtain ⟨W1, hW1⟩ : ∃ W1, W1 = w.alloc (.cells headT 41) := ⟨_, rfl⟩
  have hb1 : Below w.heap.size w W1 := by rw [hW1]; exact below_more (Below.refl _ _) _
  have hck := check_head w.heap.size W1 (by rw [hW1]; exact heap_alloc_new w _)
  have HNA : Aside0 (∀ W, Calls Tryd.prog 6 #[.string ⟨#[97, 49]⟩] W fun e w' => e = .returned (.bool true) ∧ Below W.heap.size W w') := ⟨fun W => by
    have h := name_any ⟨#[97, 49]⟩ W
    rw [nameA1] at h
    exact h⟩
  go_enter Tryd.func5, Tryd.ntmps5
  have hW1' : w.alloc (.cells #[.string ⟨#[65]⟩, .slice none 0 0, .string ⟨#[65]⟩, .slice none 0 0] 41) = W1 := hW1.symm
  clear hW1
  go_upto_region 2 with (go_at_call 8; go_loud (refine hck.mono ?_))
  rintro e W2 ⟨rfl, hb2⟩
  have HB2 := Aside0.mk (below_then hb1 hb2)
  clear hck hb1 hb2 hW1'
  go_upto_region 2 with (fail)
  obtain ⟨W3, hW3⟩ : ∃ W3, W3 = W2.alloc (.cells #[.int .i64 1, .int .i64 1] 31) := ⟨_, rfl⟩
  obtain ⟨bp, hbp⟩ : ∃ bp, bp = W2.heap.size := ⟨_, rfl⟩
  have rb : PBox W3 bp #[.int .i64 1, .int .i64 1] := by rw [hW3, hbp]; exact heap_alloc_new W2 _
  have HB3 : Aside0 (Below w.heap.size w W3) := ⟨by rw [hW3]; exact below_more HB2.out _⟩
  rw [← hW3, ← hbp]
  have hpc := rb.cells
  have hna := HNA.out W3
  clear hW3 hbp rb
  go_wp2_with (go_at_call 6; go_loud (refine hna.mono ?_))
  rintro e W4 ⟨rfl, hb4⟩
  have HB4 := below_then HB3.out hb4
  go_wp2
  go_ret
  exact ⟨rfl, HB4⟩
end Go.Proofs.YtffifhinhemkdaaDoor
