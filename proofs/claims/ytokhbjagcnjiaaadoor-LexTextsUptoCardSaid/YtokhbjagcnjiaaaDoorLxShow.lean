/- The document's Right and Show of numbers and texts. -/
import Derived.Test.YtokhbjagcnjiaaaDoorLxR7
import Derived.BigGuardPart
import Derived.Lib.ItoaLen
import Derived.Lib.AppendIntMem
import Derived.Lib.LaidTab
set_option linter.unusedVariables false
set_option linter.unusedSimpArgs false
namespace Go.Proofs.YtokhbjagcnjiaaaDoor
open Go.RowKit Go.Shelf

/-- The table that numbers are written by lies as it was laid. -/
def Tabs (w : World) : Prop := Lib.TabIs Tryd.prog w "internal/strconv.uint64pow10" .u64 Lib.pow10Tab
theorem pow10_named : Tryd.prog.globalNamed "internal/strconv.uint64pow10" = some 3 := by kernel_rfl
theorem Tabs.below {w w1 : World} (h : Tabs w) (hb : Below w.heap.size w w1) : Tabs w1 := (Lib.tabBelow_of_tabIs h) w1 hb

theorem format_any (n : Int) (h0 : -9223372036854775808 ≤ n) (h1 : n ≤ 9223372036854775807) (w : World) (ht : Tabs w) :
    Calls Tryd.prog 32 #[.int .i64 n, .int .i64 10] w fun e w' => e = .returned (.string ⟨(Lib.itoa n).toArray⟩) ∧ Below w.heap.size w w' :=
  (Tryd.strconv_FormatInt_10 n h0 h1 w ht).mono fun e w' ⟨he, k, os, hw⟩ => ⟨he, by rw [hw]; exact Lib.below_grow _ w (Nat.le_refl _) k os⟩

set_option maxRecDepth 100000 in
set_option maxHeartbeats 1600000 in
theorem rright_2_ok (n : Int) (s : ByteArray) (A : Option Addr) (c : Nat) (w : World) (hs : s.toList.isEmpty = true) :
    Calls Tryd.prog 16 #[.agg #[.int .i64 2, .bool false, .int .i64 n, .string s, .slice A 0 c]] w fun e w' => e = .returned (.bool (true)) ∧ Below w.heap.size w w' := by
  go_enter Tryd.func16, Tryd.ntmps16
  go_wp2
  go_ret
  exact ⟨rfl, below_more (Below.refl _ _) _⟩
set_option maxRecDepth 100000 in
set_option maxHeartbeats 1600000 in
theorem rsho_2 (n : Int) (b : Bool) (s : ByteArray) (A : Option Addr) (p : List Int) (c : Nat) (w : World) (hR : ∀ W, Below w.heap.size w W → Calls Tryd.prog 16 #[.agg #[.int .i64 2, .bool b, .int .i64 n, .string s, .slice A p.length c]] W fun e w' => e = .returned (.bool true) ∧ Below W.heap.size W w') (l : List UInt8) (hF : ∀ W, Below w.heap.size w W → Calls Tryd.prog 32 #[.int .i64 n, .int .i64 10] W fun e w' => e = .returned (.string ⟨l.toArray⟩) ∧ Below W.heap.size W w'):
    Calls Tryd.prog 18 #[.agg #[.int .i64 2, .bool b, .int .i64 n, .string s, .slice A p.length c]] w fun e w' => e = .returned (.string ⟨(l).toArray⟩) ∧ Below w.heap.size w w' := by
  go_enter Tryd.func18, Tryd.ntmps18
  go_wp2_with (first | (go_at_call 16; refine (hR _ (by repeat (first | exact Below.refl _ _ | assumption | apply below_more))).mono ?_; rintro e w1 ⟨rfl, hb1⟩; have hz : w.heap.size < w1.heap.size := (by have := hb1.size; (try simp at this); omega); have hbx0 : ∀ i, w1.cell? ⟨w.heap.size, i, none⟩ = (#[.int .i64 2, .bool b, .int .i64 n, .string s, .slice A p.length c] : Array Value)[i]? := (fun i => (hb1.cell (p := ⟨w.heap.size, i, none⟩) (by first | omega | (simp; done) | (simp; omega))).trans (by first | exact hbx0 i | simp [go_sem])); have HB : Below w.heap.size w w1 := below_then (by repeat (first | exact Below.refl _ _ | assumption | apply below_more)) hb1; clear hb1) | (go_at_call 32; refine (hF _ (by repeat (first | exact Below.refl _ _ | assumption | apply below_more))).mono ?_; rintro e w1 ⟨rfl, hb1⟩; have hz : w.heap.size < w1.heap.size := (by have := hb1.size; (try simp at this); omega); have hbx0 : ∀ i, w1.cell? ⟨w.heap.size, i, none⟩ = (#[.int .i64 2, .bool b, .int .i64 n, .string s, .slice A p.length c] : Array Value)[i]? := (fun i => (hb1.cell (p := ⟨w.heap.size, i, none⟩) (by first | omega | (simp; done) | (simp; omega))).trans (by first | exact hbx0 i | simp [go_sem])); have HB : Below w.heap.size w w1 := below_then (by repeat (first | exact Below.refl _ _ | assumption | apply below_more)) hb1; clear hb1))
  go_ret
  exact ⟨rfl, HB⟩

theorem valid_all (s : ByteArray) (w : World) (hs : s.size ≤ 9223372036854775807) (hT : Lib.Utf8Tabs 1 2 w) :
    Calls Tryd.prog 30 #[.string s] w fun e w' => e = .returned (.bool (Lib.validD s.data.toList)) ∧ Below w.heap.size w w' := Any.utf8_ValidString Tryd.lays196 s w hs hT
set_option maxRecDepth 100000 in
set_option maxHeartbeats 1600000 in
theorem rright_3_ok (s : ByteArray) (A : Option Addr) (c : Nat) (w : World) (hss : s.size ≤ 9223372036854775807) (hT : Lib.Utf8Tabs 1 2 w) :
    Calls Tryd.prog 16 #[.agg #[.int .i64 3, .bool false, .int .i64 0, .string s, .slice A 0 c]] w fun e w' => e = .returned (.bool (textB s)) ∧ Below w.heap.size w w' := by
  unfold textB
  by_cases h4 : s.size ≤ 4096
  · have h4i : (s.size : Int) ≤ 4096 := by omega
    have hV := fun W (h : Below w.heap.size w W) => valid_all s W hss (Utf8Tabs_below hT h)
    generalize Lib.validD s.data.toList = z at hV ⊢
    clear hT
    go_enter Tryd.func16, Tryd.ntmps16
    go_wp2_with (go_at_call 30; refine (hV _ (below_more (Below.refl _ _) _)).mono ?_; rintro e w2 ⟨rfl, hb2⟩)
    go_ret
    exact ⟨by simp [h4], below_then (below_more (Below.refl _ _) _) hb2⟩
  · have h4i : ¬ (s.size : Int) ≤ 4096 := by omega
    clear hT
    go_enter Tryd.func16, Tryd.ntmps16
    go_wp2
    go_ret
    exact ⟨by simp [h4], below_more (Below.refl _ _) _⟩
end Go.Proofs.YtokhbjagcnjiaaaDoor
