/- The printer's shapeOf: what an Op is written with. -/
import Derived.Test.YtkchpgjjkckfbaaDoorPrP
set_option linter.unusedVariables false
set_option linter.unusedSimpArgs false
namespace Go.Proofs.YtkchpgjjkckfbaaDoor
open Go.RowKit

def Shp.zero : Shp := ⟨0, [], [], [], []⟩
def shapeV (s : Shp) (A : Option Addr) : Value := .agg #[.int .i64 s.lvl, .slice A s.asks.length s.asks.length, .string ⟨s.ahead.toArray⟩, .string ⟨s.sign.toArray⟩, .string ⟨s.behind.toArray⟩]
/-- The row of what the Kids' places ask for. -/
def AskRow (W : World) (A : Option Addr) (l : List Int) : Prop := l = [] ∨ ∃ r, A = some ⟨r, 0, none⟩ ∧ W.heap[r]? = some (.cells (l.map (Value.int .i64)).toArray 3)
theorem heap_last {W : World} {o : Obj} {n : Nat} (h : n = W.heap.size) : (W.alloc o).heap[n]? = some o := by subst h; exact heap_alloc_new W o
theorem results_shape {tmps : Array Value} {W : World} {b : Nat} {cs : Array Value} (h4 : tmps.getD 2 undef = .pointer (some ⟨b, 0, none⟩)) (hb : W.heap[b]? = some (.cells cs 88 (0, 0))) (hc : cs.size = 5) :
    (results Tryd.f36 tmps).run Tryd.prog W = .ok (.agg cs) W := by
  have hi : (Tryd.prog.info? 88).map (·.size) = some cs.size := by rw [hc]; kernel_rfl
  have hl := run_loadVar_row (P := Tryd.prog) W b 88 88 cs (0, 0) _ hb Tryd.underlying88 rfl hi
  have h5 := h4
  rw [Array.getD_eq_getD_getElem?] at h5
  simp [results, Tryd.results36, h5, asAddr, hl, Result.andThen]
theorem set5 {W : World} {b : Nat} {T : TypeId} {c0 c1 c2 c3 c4 : Value} (h : W.heap[b]? = some (.cells #[c0, c1, c2, c3, c4] T (0, 0))) (u0 u1 u2 u3 u4 : Value) :
    (((((W.setCell ⟨b, 0, none⟩ u0).setCell ⟨b, 1, none⟩ u1).setCell ⟨b, 2, none⟩ u2).setCell ⟨b, 3, none⟩ u3).setCell ⟨b, 4, none⟩ u4).heap[b]? = some (.cells #[u0, u1, u2, u3, u4] T (0, 0)) :=
  heap_setCell_same _ b 4 _ _ _ (heap_setCell_same _ b 3 _ _ _ (heap_setCell_same _ b 2 _ _ _ (heap_setCell_same _ b 1 _ _ _ (heap_setCell_same W b 0 _ _ _ h))))
theorem set5_other {W : World} {b r : Nat} {o : Option Obj} (hr : r ≠ b) (h : W.heap[r]? = o) (u0 u1 u2 u3 u4 : Value) :
    (((((W.setCell ⟨b, 0, none⟩ u0).setCell ⟨b, 1, none⟩ u1).setCell ⟨b, 2, none⟩ u2).setCell ⟨b, 3, none⟩ u3).setCell ⟨b, 4, none⟩ u4).heap[r]? = o := by
  rw [Below.heap_setCell _ _ _ _ hr, Below.heap_setCell _ _ _ _ hr, Below.heap_setCell _ _ _ _ hr, Below.heap_setCell _ _ _ _ hr, Below.heap_setCell _ _ _ _ hr]
  exact h
theorem set5_below {w W : World} {b : Nat} (hb : w.heap.size ≤ b) (h : Below w.heap.size w W) (u0 u1 u2 u3 u4 : Value) :
    Below w.heap.size w (((((W.setCell ⟨b, 0, none⟩ u0).setCell ⟨b, 1, none⟩ u1).setCell ⟨b, 2, none⟩ u2).setCell ⟨b, 3, none⟩ u3).setCell ⟨b, 4, none⟩ u4) :=
  below_set (below_set (below_set (below_set (below_set h (p := ⟨b, 0, none⟩) hb u0) (p := ⟨b, 1, none⟩) hb u1) (p := ⟨b, 2, none⟩) hb u2) (p := ⟨b, 3, none⟩) hb u3) (p := ⟨b, 4, none⟩) hb u4
def shapeQ (s : Shp) (w : World) (e : Ending) (w' : World) : Prop := ∃ A, e = .returned (shapeV s A) ∧ AskRow w' A s.asks ∧ Below w.heap.size w w'

set_option maxRecDepth 100000 in
theorem two_4 (l a b : Int) (g o : Nat) (w : World) (ho : w.cell? ⟨o, 0, none⟩ = some (.int .i64 4)) (hg : w.cell? ⟨g, 0, none⟩ = some (.string ⟨#[79, 82]⟩)) :
    Calls Tryd.prog 60 #[.int .i64 l, .int .i64 a, .int .i64 b, .pointer (some ⟨g, 0, none⟩), .pointer (some ⟨o, 0, none⟩)] w fun e w' => ∃ r, e = .returned (.agg #[.int .i64 l, .slice (some ⟨r, 0, none⟩) 2 2, .string ⟨#[]⟩, .string ⟨#[32, 79, 82, 32]⟩, .string ⟨#[]⟩]) ∧ w.heap.size ≤ r ∧ w'.heap[r]? = some (.cells #[.int .i64 a, .int .i64 b] 3) ∧ Below w.heap.size w w' := by
  have hlo : o < w.heap.size := World.block_lt_of_cell? w _ ho
  have hlg : g < w.heap.size := World.block_lt_of_cell? w _ hg
  go_enter Tryd.func60, Tryd.ntmps60
  go_wp2
  refine bodyPost_ret (v := ?v) (by simp [results, Tryd.results60, go_sem] <;> rfl) rfl ?_
  exact ⟨_, rfl, by first | (simp; done) | (simp; omega), heap_last (by simp), (by repeat (first | exact Below.refl _ _ | assumption | apply below_more | (refine below_set ?_ (by simp) _)))⟩
set_option maxRecDepth 100000 in
theorem two_5 (l a b : Int) (g o : Nat) (w : World) (ho : w.cell? ⟨o, 0, none⟩ = some (.int .i64 5)) (hg : w.cell? ⟨g, 1, none⟩ = some (.string ⟨#[65, 78, 68]⟩)) :
    Calls Tryd.prog 60 #[.int .i64 l, .int .i64 a, .int .i64 b, .pointer (some ⟨g, 0, none⟩), .pointer (some ⟨o, 0, none⟩)] w fun e w' => ∃ r, e = .returned (.agg #[.int .i64 l, .slice (some ⟨r, 0, none⟩) 2 2, .string ⟨#[]⟩, .string ⟨#[32, 65, 78, 68, 32]⟩, .string ⟨#[]⟩]) ∧ w.heap.size ≤ r ∧ w'.heap[r]? = some (.cells #[.int .i64 a, .int .i64 b] 3) ∧ Below w.heap.size w w' := by
  have hlo : o < w.heap.size := World.block_lt_of_cell? w _ ho
  have hlg : g < w.heap.size := World.block_lt_of_cell? w _ hg
  go_enter Tryd.func60, Tryd.ntmps60
  go_wp2
  refine bodyPost_ret (v := ?v) (by simp [results, Tryd.results60, go_sem] <;> rfl) rfl ?_
  exact ⟨_, rfl, by first | (simp; done) | (simp; omega), heap_last (by simp), (by repeat (first | exact Below.refl _ _ | assumption | apply below_more | (refine below_set ?_ (by simp) _)))⟩
set_option maxRecDepth 100000 in
theorem two_6 (l a b : Int) (g o : Nat) (w : World) (ho : w.cell? ⟨o, 0, none⟩ = some (.int .i64 6)) (hg : w.cell? ⟨g, 2, none⟩ = some (.string ⟨#[61]⟩)) :
    Calls Tryd.prog 60 #[.int .i64 l, .int .i64 a, .int .i64 b, .pointer (some ⟨g, 0, none⟩), .pointer (some ⟨o, 0, none⟩)] w fun e w' => ∃ r, e = .returned (.agg #[.int .i64 l, .slice (some ⟨r, 0, none⟩) 2 2, .string ⟨#[]⟩, .string ⟨#[32, 61, 32]⟩, .string ⟨#[]⟩]) ∧ w.heap.size ≤ r ∧ w'.heap[r]? = some (.cells #[.int .i64 a, .int .i64 b] 3) ∧ Below w.heap.size w w' := by
  have hlo : o < w.heap.size := World.block_lt_of_cell? w _ ho
  have hlg : g < w.heap.size := World.block_lt_of_cell? w _ hg
  go_enter Tryd.func60, Tryd.ntmps60
  go_wp2
  refine bodyPost_ret (v := ?v) (by simp [results, Tryd.results60, go_sem] <;> rfl) rfl ?_
  exact ⟨_, rfl, by first | (simp; done) | (simp; omega), heap_last (by simp), (by repeat (first | exact Below.refl _ _ | assumption | apply below_more | (refine below_set ?_ (by simp) _)))⟩
set_option maxRecDepth 100000 in
theorem two_7 (l a b : Int) (g o : Nat) (w : World) (ho : w.cell? ⟨o, 0, none⟩ = some (.int .i64 7)) (hg : w.cell? ⟨g, 3, none⟩ = some (.string ⟨#[60, 62]⟩)) :
    Calls Tryd.prog 60 #[.int .i64 l, .int .i64 a, .int .i64 b, .pointer (some ⟨g, 0, none⟩), .pointer (some ⟨o, 0, none⟩)] w fun e w' => ∃ r, e = .returned (.agg #[.int .i64 l, .slice (some ⟨r, 0, none⟩) 2 2, .string ⟨#[]⟩, .string ⟨#[32, 60, 62, 32]⟩, .string ⟨#[]⟩]) ∧ w.heap.size ≤ r ∧ w'.heap[r]? = some (.cells #[.int .i64 a, .int .i64 b] 3) ∧ Below w.heap.size w w' := by
  have hlo : o < w.heap.size := World.block_lt_of_cell? w _ ho
  have hlg : g < w.heap.size := World.block_lt_of_cell? w _ hg
  go_enter Tryd.func60, Tryd.ntmps60
  go_wp2
  refine bodyPost_ret (v := ?v) (by simp [results, Tryd.results60, go_sem] <;> rfl) rfl ?_
  exact ⟨_, rfl, by first | (simp; done) | (simp; omega), heap_last (by simp), (by repeat (first | exact Below.refl _ _ | assumption | apply below_more | (refine below_set ?_ (by simp) _)))⟩
set_option maxRecDepth 100000 in
theorem two_8 (l a b : Int) (g o : Nat) (w : World) (ho : w.cell? ⟨o, 0, none⟩ = some (.int .i64 8)) (hg : w.cell? ⟨g, 4, none⟩ = some (.string ⟨#[60]⟩)) :
    Calls Tryd.prog 60 #[.int .i64 l, .int .i64 a, .int .i64 b, .pointer (some ⟨g, 0, none⟩), .pointer (some ⟨o, 0, none⟩)] w fun e w' => ∃ r, e = .returned (.agg #[.int .i64 l, .slice (some ⟨r, 0, none⟩) 2 2, .string ⟨#[]⟩, .string ⟨#[32, 60, 32]⟩, .string ⟨#[]⟩]) ∧ w.heap.size ≤ r ∧ w'.heap[r]? = some (.cells #[.int .i64 a, .int .i64 b] 3) ∧ Below w.heap.size w w' := by
  have hlo : o < w.heap.size := World.block_lt_of_cell? w _ ho
  have hlg : g < w.heap.size := World.block_lt_of_cell? w _ hg
  go_enter Tryd.func60, Tryd.ntmps60
  go_wp2
  refine bodyPost_ret (v := ?v) (by simp [results, Tryd.results60, go_sem] <;> rfl) rfl ?_
  exact ⟨_, rfl, by first | (simp; done) | (simp; omega), heap_last (by simp), (by repeat (first | exact Below.refl _ _ | assumption | apply below_more | (refine below_set ?_ (by simp) _)))⟩
set_option maxRecDepth 100000 in
theorem two_9 (l a b : Int) (g o : Nat) (w : World) (ho : w.cell? ⟨o, 0, none⟩ = some (.int .i64 9)) (hg : w.cell? ⟨g, 5, none⟩ = some (.string ⟨#[60, 61]⟩)) :
    Calls Tryd.prog 60 #[.int .i64 l, .int .i64 a, .int .i64 b, .pointer (some ⟨g, 0, none⟩), .pointer (some ⟨o, 0, none⟩)] w fun e w' => ∃ r, e = .returned (.agg #[.int .i64 l, .slice (some ⟨r, 0, none⟩) 2 2, .string ⟨#[]⟩, .string ⟨#[32, 60, 61, 32]⟩, .string ⟨#[]⟩]) ∧ w.heap.size ≤ r ∧ w'.heap[r]? = some (.cells #[.int .i64 a, .int .i64 b] 3) ∧ Below w.heap.size w w' := by
  have hlo : o < w.heap.size := World.block_lt_of_cell? w _ ho
  have hlg : g < w.heap.size := World.block_lt_of_cell? w _ hg
  go_enter Tryd.func60, Tryd.ntmps60
  go_wp2
  refine bodyPost_ret (v := ?v) (by simp [results, Tryd.results60, go_sem] <;> rfl) rfl ?_
  exact ⟨_, rfl, by first | (simp; done) | (simp; omega), heap_last (by simp), (by repeat (first | exact Below.refl _ _ | assumption | apply below_more | (refine below_set ?_ (by simp) _)))⟩
set_option maxRecDepth 100000 in
theorem two_10 (l a b : Int) (g o : Nat) (w : World) (ho : w.cell? ⟨o, 0, none⟩ = some (.int .i64 10)) (hg : w.cell? ⟨g, 6, none⟩ = some (.string ⟨#[62]⟩)) :
    Calls Tryd.prog 60 #[.int .i64 l, .int .i64 a, .int .i64 b, .pointer (some ⟨g, 0, none⟩), .pointer (some ⟨o, 0, none⟩)] w fun e w' => ∃ r, e = .returned (.agg #[.int .i64 l, .slice (some ⟨r, 0, none⟩) 2 2, .string ⟨#[]⟩, .string ⟨#[32, 62, 32]⟩, .string ⟨#[]⟩]) ∧ w.heap.size ≤ r ∧ w'.heap[r]? = some (.cells #[.int .i64 a, .int .i64 b] 3) ∧ Below w.heap.size w w' := by
  have hlo : o < w.heap.size := World.block_lt_of_cell? w _ ho
  have hlg : g < w.heap.size := World.block_lt_of_cell? w _ hg
  go_enter Tryd.func60, Tryd.ntmps60
  go_wp2
  refine bodyPost_ret (v := ?v) (by simp [results, Tryd.results60, go_sem] <;> rfl) rfl ?_
  exact ⟨_, rfl, by first | (simp; done) | (simp; omega), heap_last (by simp), (by repeat (first | exact Below.refl _ _ | assumption | apply below_more | (refine below_set ?_ (by simp) _)))⟩
set_option maxRecDepth 100000 in
theorem two_11 (l a b : Int) (g o : Nat) (w : World) (ho : w.cell? ⟨o, 0, none⟩ = some (.int .i64 11)) (hg : w.cell? ⟨g, 7, none⟩ = some (.string ⟨#[62, 61]⟩)) :
    Calls Tryd.prog 60 #[.int .i64 l, .int .i64 a, .int .i64 b, .pointer (some ⟨g, 0, none⟩), .pointer (some ⟨o, 0, none⟩)] w fun e w' => ∃ r, e = .returned (.agg #[.int .i64 l, .slice (some ⟨r, 0, none⟩) 2 2, .string ⟨#[]⟩, .string ⟨#[32, 62, 61, 32]⟩, .string ⟨#[]⟩]) ∧ w.heap.size ≤ r ∧ w'.heap[r]? = some (.cells #[.int .i64 a, .int .i64 b] 3) ∧ Below w.heap.size w w' := by
  have hlo : o < w.heap.size := World.block_lt_of_cell? w _ ho
  have hlg : g < w.heap.size := World.block_lt_of_cell? w _ hg
  go_enter Tryd.func60, Tryd.ntmps60
  go_wp2
  refine bodyPost_ret (v := ?v) (by simp [results, Tryd.results60, go_sem] <;> rfl) rfl ?_
  exact ⟨_, rfl, by first | (simp; done) | (simp; omega), heap_last (by simp), (by repeat (first | exact Below.refl _ _ | assumption | apply below_more | (refine below_set ?_ (by simp) _)))⟩
set_option maxRecDepth 100000 in
theorem two_12 (l a b : Int) (g o : Nat) (w : World) (ho : w.cell? ⟨o, 0, none⟩ = some (.int .i64 12)) (hg : w.cell? ⟨g, 8, none⟩ = some (.string ⟨#[43]⟩)) :
    Calls Tryd.prog 60 #[.int .i64 l, .int .i64 a, .int .i64 b, .pointer (some ⟨g, 0, none⟩), .pointer (some ⟨o, 0, none⟩)] w fun e w' => ∃ r, e = .returned (.agg #[.int .i64 l, .slice (some ⟨r, 0, none⟩) 2 2, .string ⟨#[]⟩, .string ⟨#[32, 43, 32]⟩, .string ⟨#[]⟩]) ∧ w.heap.size ≤ r ∧ w'.heap[r]? = some (.cells #[.int .i64 a, .int .i64 b] 3) ∧ Below w.heap.size w w' := by
  have hlo : o < w.heap.size := World.block_lt_of_cell? w _ ho
  have hlg : g < w.heap.size := World.block_lt_of_cell? w _ hg
  go_enter Tryd.func60, Tryd.ntmps60
  go_wp2
  refine bodyPost_ret (v := ?v) (by simp [results, Tryd.results60, go_sem] <;> rfl) rfl ?_
  exact ⟨_, rfl, by first | (simp; done) | (simp; omega), heap_last (by simp), (by repeat (first | exact Below.refl _ _ | assumption | apply below_more | (refine below_set ?_ (by simp) _)))⟩
set_option maxRecDepth 100000 in
theorem two_13 (l a b : Int) (g o : Nat) (w : World) (ho : w.cell? ⟨o, 0, none⟩ = some (.int .i64 13)) (hg : w.cell? ⟨g, 9, none⟩ = some (.string ⟨#[45]⟩)) :
    Calls Tryd.prog 60 #[.int .i64 l, .int .i64 a, .int .i64 b, .pointer (some ⟨g, 0, none⟩), .pointer (some ⟨o, 0, none⟩)] w fun e w' => ∃ r, e = .returned (.agg #[.int .i64 l, .slice (some ⟨r, 0, none⟩) 2 2, .string ⟨#[]⟩, .string ⟨#[32, 45, 32]⟩, .string ⟨#[]⟩]) ∧ w.heap.size ≤ r ∧ w'.heap[r]? = some (.cells #[.int .i64 a, .int .i64 b] 3) ∧ Below w.heap.size w w' := by
  have hlo : o < w.heap.size := World.block_lt_of_cell? w _ ho
  have hlg : g < w.heap.size := World.block_lt_of_cell? w _ hg
  go_enter Tryd.func60, Tryd.ntmps60
  go_wp2
  refine bodyPost_ret (v := ?v) (by simp [results, Tryd.results60, go_sem] <;> rfl) rfl ?_
  exact ⟨_, rfl, by first | (simp; done) | (simp; omega), heap_last (by simp), (by repeat (first | exact Below.refl _ _ | assumption | apply below_more | (refine below_set ?_ (by simp) _)))⟩
set_option maxRecDepth 100000 in
theorem two_14 (l a b : Int) (g o : Nat) (w : World) (ho : w.cell? ⟨o, 0, none⟩ = some (.int .i64 14)) (hg : w.cell? ⟨g, 10, none⟩ = some (.string ⟨#[42]⟩)) :
    Calls Tryd.prog 60 #[.int .i64 l, .int .i64 a, .int .i64 b, .pointer (some ⟨g, 0, none⟩), .pointer (some ⟨o, 0, none⟩)] w fun e w' => ∃ r, e = .returned (.agg #[.int .i64 l, .slice (some ⟨r, 0, none⟩) 2 2, .string ⟨#[]⟩, .string ⟨#[32, 42, 32]⟩, .string ⟨#[]⟩]) ∧ w.heap.size ≤ r ∧ w'.heap[r]? = some (.cells #[.int .i64 a, .int .i64 b] 3) ∧ Below w.heap.size w w' := by
  have hlo : o < w.heap.size := World.block_lt_of_cell? w _ ho
  have hlg : g < w.heap.size := World.block_lt_of_cell? w _ hg
  go_enter Tryd.func60, Tryd.ntmps60
  go_wp2
  refine bodyPost_ret (v := ?v) (by simp [results, Tryd.results60, go_sem] <;> rfl) rfl ?_
  exact ⟨_, rfl, by first | (simp; done) | (simp; omega), heap_last (by simp), (by repeat (first | exact Below.refl _ _ | assumption | apply below_more | (refine below_set ?_ (by simp) _)))⟩
set_option maxRecDepth 100000 in
theorem two_15 (l a b : Int) (g o : Nat) (w : World) (ho : w.cell? ⟨o, 0, none⟩ = some (.int .i64 15)) (hg : w.cell? ⟨g, 11, none⟩ = some (.string ⟨#[47]⟩)) :
    Calls Tryd.prog 60 #[.int .i64 l, .int .i64 a, .int .i64 b, .pointer (some ⟨g, 0, none⟩), .pointer (some ⟨o, 0, none⟩)] w fun e w' => ∃ r, e = .returned (.agg #[.int .i64 l, .slice (some ⟨r, 0, none⟩) 2 2, .string ⟨#[]⟩, .string ⟨#[32, 47, 32]⟩, .string ⟨#[]⟩]) ∧ w.heap.size ≤ r ∧ w'.heap[r]? = some (.cells #[.int .i64 a, .int .i64 b] 3) ∧ Below w.heap.size w w' := by
  have hlo : o < w.heap.size := World.block_lt_of_cell? w _ ho
  have hlg : g < w.heap.size := World.block_lt_of_cell? w _ hg
  go_enter Tryd.func60, Tryd.ntmps60
  go_wp2
  refine bodyPost_ret (v := ?v) (by simp [results, Tryd.results60, go_sem] <;> rfl) rfl ?_
  exact ⟨_, rfl, by first | (simp; done) | (simp; omega), heap_last (by simp), (by repeat (first | exact Below.refl _ _ | assumption | apply below_more | (refine below_set ?_ (by simp) _)))⟩
set_option maxRecDepth 100000 in
theorem two_16 (l a b : Int) (g o : Nat) (w : World) (ho : w.cell? ⟨o, 0, none⟩ = some (.int .i64 16)) (hg : w.cell? ⟨g, 12, none⟩ = some (.string ⟨#[37]⟩)) :
    Calls Tryd.prog 60 #[.int .i64 l, .int .i64 a, .int .i64 b, .pointer (some ⟨g, 0, none⟩), .pointer (some ⟨o, 0, none⟩)] w fun e w' => ∃ r, e = .returned (.agg #[.int .i64 l, .slice (some ⟨r, 0, none⟩) 2 2, .string ⟨#[]⟩, .string ⟨#[32, 37, 32]⟩, .string ⟨#[]⟩]) ∧ w.heap.size ≤ r ∧ w'.heap[r]? = some (.cells #[.int .i64 a, .int .i64 b] 3) ∧ Below w.heap.size w w' := by
  have hlo : o < w.heap.size := World.block_lt_of_cell? w _ ho
  have hlg : g < w.heap.size := World.block_lt_of_cell? w _ hg
  go_enter Tryd.func60, Tryd.ntmps60
  go_wp2
  refine bodyPost_ret (v := ?v) (by simp [results, Tryd.results60, go_sem] <;> rfl) rfl ?_
  exact ⟨_, rfl, by first | (simp; done) | (simp; omega), heap_last (by simp), (by repeat (first | exact Below.refl _ _ | assumption | apply below_more | (refine below_set ?_ (by simp) _)))⟩
set_option maxRecDepth 100000 in
theorem call_21 (w : World) :
    Calls Tryd.prog 59 #[.string ⟨#[76, 69, 78, 71, 84, 72]⟩] w fun e w' => ∃ r, e = .returned (.agg #[.int .i64 8, .slice (some ⟨r, 0, none⟩) 1 1, .string ⟨#[76, 69, 78, 71, 84, 72, 40]⟩, .string ⟨#[]⟩, .string ⟨#[41]⟩]) ∧ w.heap.size ≤ r ∧ w'.heap[r]? = some (.cells #[.int .i64 1] 3) ∧ Below w.heap.size w w' := by
  go_enter Tryd.func59, Tryd.ntmps59
  go_wp2
  refine bodyPost_ret (v := ?v) (by simp [results, Tryd.results59, go_sem] <;> rfl) rfl ?_
  exact ⟨_, rfl, by first | (simp; done) | (simp; omega), heap_last (by simp), (by repeat (first | exact Below.refl _ _ | assumption | apply below_more | (refine below_set ?_ (by simp) _)))⟩
set_option maxRecDepth 100000 in
theorem call_22 (w : World) :
    Calls Tryd.prog 59 #[.string ⟨#[67, 79, 85, 78, 84]⟩] w fun e w' => ∃ r, e = .returned (.agg #[.int .i64 8, .slice (some ⟨r, 0, none⟩) 1 1, .string ⟨#[67, 79, 85, 78, 84, 40]⟩, .string ⟨#[]⟩, .string ⟨#[41]⟩]) ∧ w.heap.size ≤ r ∧ w'.heap[r]? = some (.cells #[.int .i64 1] 3) ∧ Below w.heap.size w w' := by
  go_enter Tryd.func59, Tryd.ntmps59
  go_wp2
  refine bodyPost_ret (v := ?v) (by simp [results, Tryd.results59, go_sem] <;> rfl) rfl ?_
  exact ⟨_, rfl, by first | (simp; done) | (simp; omega), heap_last (by simp), (by repeat (first | exact Below.refl _ _ | assumption | apply below_more | (refine below_set ?_ (by simp) _)))⟩
set_option maxRecDepth 100000 in
theorem call_23 (w : World) :
    Calls Tryd.prog 59 #[.string ⟨#[83, 85, 77]⟩] w fun e w' => ∃ r, e = .returned (.agg #[.int .i64 8, .slice (some ⟨r, 0, none⟩) 1 1, .string ⟨#[83, 85, 77, 40]⟩, .string ⟨#[]⟩, .string ⟨#[41]⟩]) ∧ w.heap.size ≤ r ∧ w'.heap[r]? = some (.cells #[.int .i64 1] 3) ∧ Below w.heap.size w w' := by
  go_enter Tryd.func59, Tryd.ntmps59
  go_wp2
  refine bodyPost_ret (v := ?v) (by simp [results, Tryd.results59, go_sem] <;> rfl) rfl ?_
  exact ⟨_, rfl, by first | (simp; done) | (simp; omega), heap_last (by simp), (by repeat (first | exact Below.refl _ _ | assumption | apply below_more | (refine below_set ?_ (by simp) _)))⟩
set_option maxRecDepth 100000 in
theorem call_24 (w : World) :
    Calls Tryd.prog 59 #[.string ⟨#[77, 73, 78]⟩] w fun e w' => ∃ r, e = .returned (.agg #[.int .i64 8, .slice (some ⟨r, 0, none⟩) 1 1, .string ⟨#[77, 73, 78, 40]⟩, .string ⟨#[]⟩, .string ⟨#[41]⟩]) ∧ w.heap.size ≤ r ∧ w'.heap[r]? = some (.cells #[.int .i64 1] 3) ∧ Below w.heap.size w w' := by
  go_enter Tryd.func59, Tryd.ntmps59
  go_wp2
  refine bodyPost_ret (v := ?v) (by simp [results, Tryd.results59, go_sem] <;> rfl) rfl ?_
  exact ⟨_, rfl, by first | (simp; done) | (simp; omega), heap_last (by simp), (by repeat (first | exact Below.refl _ _ | assumption | apply below_more | (refine below_set ?_ (by simp) _)))⟩
set_option maxRecDepth 100000 in
theorem call_25 (w : World) :
    Calls Tryd.prog 59 #[.string ⟨#[77, 65, 88]⟩] w fun e w' => ∃ r, e = .returned (.agg #[.int .i64 8, .slice (some ⟨r, 0, none⟩) 1 1, .string ⟨#[77, 65, 88, 40]⟩, .string ⟨#[]⟩, .string ⟨#[41]⟩]) ∧ w.heap.size ≤ r ∧ w'.heap[r]? = some (.cells #[.int .i64 1] 3) ∧ Below w.heap.size w w' := by
  go_enter Tryd.func59, Tryd.ntmps59
  go_wp2
  refine bodyPost_ret (v := ?v) (by simp [results, Tryd.results59, go_sem] <;> rfl) rfl ?_
  exact ⟨_, rfl, by first | (simp; done) | (simp; omega), heap_last (by simp), (by repeat (first | exact Below.refl _ _ | assumption | apply below_more | (refine below_set ?_ (by simp) _)))⟩
end Go.Proofs.YtkchpgjjkckfbaaDoor
