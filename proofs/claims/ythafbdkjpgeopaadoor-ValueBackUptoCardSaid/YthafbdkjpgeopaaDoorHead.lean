/- The live question: portolanlaw02.head. -/
import Derived.Test.YthafbdkjpgeopaaDoorRNot
import Derived.Test.YthafbdkjpgeopaaDoorOrd
import Derived.Lib.AppendIntMem
import Derived.Lib.LaidTab
set_option linter.unusedVariables false
set_option linter.unusedSimpArgs false
namespace Go.Proofs.YthafbdkjpgeopaaDoor
open Go.RowKit

/-- The table that numbers are written by lies as it was laid. -/
def Tabs (w : World) : Prop := Lib.TabIs Tryd.prog w "internal/strconv.uint64pow10" .u64 Lib.pow10Tab
theorem pow10_named : Tryd.prog.globalNamed "internal/strconv.uint64pow10" = some 3 := by kernel_rfl
theorem Tabs.below {w w1 : World} (h : Tabs w) (hb : Below w.heap.size w w1) : Tabs w1 := (Lib.tabBelow_of_tabIs h) w1 hb

theorem format_any (n : Int) (h0 : -9223372036854775808 ≤ n) (h1 : n ≤ 9223372036854775807) (w : World) (ht : Tabs w) :
    Calls Tryd.prog 65 #[.int .i64 n, .int .i64 10] w fun e w' => e = .returned (.string ⟨(Lib.itoa n).toArray⟩) ∧ Below w.heap.size w w' :=
  (Tryd.strconv_FormatInt_10 n h0 h1 w ht).mono fun e w' ⟨he, k, os, hw⟩ => ⟨he, by rw [hw]; exact Lib.below_grow _ w (Nat.le_refl _) k os⟩

set_option maxRecDepth 100000 in
set_option maxHeartbeats 1600000 in
theorem show_2 (n : Int) (w : World) (h0 : -9223372036854775808 ≤ n) (h1 : n ≤ 9223372036854775807) (ht : Tabs w) :
    Calls Tryd.prog 39 #[.agg #[.int .i64 2, .bool false, .int .i64 n, .string ⟨#[]⟩, .slice none 0 0]] w fun e w' => e = .returned (.string ⟨(Lib.itoa n).toArray⟩) ∧ Below w.heap.size w w' := by
  have hR := fun W => right_2_ok n ⟨#[]⟩ none 0 W (isEmpty_of rfl)
  have hF := fun W (h : Below w.heap.size w W) => format_any n h0 h1 W (ht.below h)
  generalize Lib.itoa n = l at hF ⊢
  clear h0 h1 ht
  go_enter Tryd.func39, Tryd.ntmps39
  go_wp2_with (first | (go_at_call 22; refine (hR _).mono ?_; rintro e w1 ⟨rfl, hb1⟩; have hz : w.heap.size < w1.heap.size := (by have := hb1.size; (try simp at this); omega); have hbx0 : ∀ i, w1.cell? ⟨w.heap.size, i, none⟩ = (#[.int .i64 2, .bool false, .int .i64 n, .string ⟨#[]⟩, .slice none 0 0] : Array Value)[i]? := (fun i => (hb1.cell (p := ⟨w.heap.size, i, none⟩) (by first | omega | (simp; done) | (simp; omega))).trans (by first | exact hbx0 i | simp [go_sem])); have HB : Below w.heap.size w w1 := below_then (by repeat (first | exact Below.refl _ _ | assumption | apply below_more)) hb1; clear hb1) | (go_at_call 65; refine (hF _ (by assumption)).mono ?_; rintro e w1 ⟨rfl, hb1⟩; have hz : w.heap.size < w1.heap.size := (by have := hb1.size; (try simp at this); omega); have hbx0 : ∀ i, w1.cell? ⟨w.heap.size, i, none⟩ = (#[.int .i64 2, .bool false, .int .i64 n, .string ⟨#[]⟩, .slice none 0 0] : Array Value)[i]? := (fun i => (hb1.cell (p := ⟨w.heap.size, i, none⟩) (by first | omega | (simp; done) | (simp; omega))).trans (by first | exact hbx0 i | simp [go_sem])); have HB : Below w.heap.size w w1 := below_then (by repeat (first | exact Below.refl _ _ | assumption | apply below_more)) hb1; clear hb1))
  go_ret
  exact ⟨rfl, by repeat (first | exact Below.refl _ _ | assumption | apply below_more)⟩

set_option maxRecDepth 100000 in
set_option maxHeartbeats 1600000 in
theorem hash_nil (w : World) :
    Calls Tryd.prog 42 #[.slice none 0 0] w fun e w' => e = .returned (.int .u64 14695981039346656037) ∧ w = w' := by
  go_enter Tryd.func42, Tryd.ntmps42
  go_wp2
  refine wp_loop_rounds 1 ?_
  rw [rounds_succ]
  go_wp2
  go_ret
  exact ⟨rfl, rfl⟩

set_option maxRecDepth 100000 in
set_option maxHeartbeats 1600000 in
theorem head_any (w : World) (ht : Tabs w) :
    Calls Tryd.prog 19 #[] w fun e w' => e = .returned (.bool true) ∧ Below w.heap.size w w' := by
  have hS := show_2 (-7) w (by decide) (by decide) ht
  rw [show (⟨(Lib.itoa (-7)).toArray⟩ : ByteArray) = ⟨#[45, 55]⟩ from by kernel_rfl] at hS
  have hO : ∀ W, Calls Tryd.prog 21 #[.agg #[.int .i64 0, .bool false, .int .i64 0, .string ⟨#[]⟩, .slice none 0 0], .agg #[.int .i64 1, .bool false, .int .i64 0, .string ⟨#[]⟩, .slice none 0 0]] W fun e w' => e = .returned (.int .i64 (-1)) ∧ Below W.heap.size W w' := fun W => by
    have := order_any 0 0 false ⟨#[]⟩ none [] 0 1 0 false ⟨#[]⟩ none [] 0 W ⟨by decide, fun h => absurd h (by decide)⟩ ⟨by decide, fun h => absurd h (by decide)⟩
    exact this
  clear ht
  go_enter Tryd.func19, Tryd.ntmps19
  go_wp2_with (first | (go_at_call 39; refine (hS).mono ?_; rintro e w1 ⟨rfl, hb1⟩; have HB : Below w.heap.size w w1 := below_then (by repeat (first | exact Below.refl _ _ | assumption | apply below_more)) hb1; clear hb1) | (go_at_call 42; refine (hash_nil _).mono ?_; rintro e w1 ⟨rfl, rfl⟩) | (go_at_call 45; refine (rtruth_any _ _).mono ?_; rintro e w1 ⟨rfl, hb1⟩; have HB : Below w.heap.size w w1 := below_then (by repeat (first | exact Below.refl _ _ | assumption | apply below_more)) hb1; clear hb1) | (go_at_call 21; refine (hO _).mono ?_; rintro e w1 ⟨rfl, hb1⟩; have HB : Below w.heap.size w w1 := below_then (by repeat (first | exact Below.refl _ _ | assumption | apply below_more)) hb1; clear hb1))
  go_ret
  exact ⟨rfl, by assumption⟩
end Go.Proofs.YthafbdkjpgeopaaDoor
