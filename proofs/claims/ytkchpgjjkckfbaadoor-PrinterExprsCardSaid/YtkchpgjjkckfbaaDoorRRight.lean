/- The walks of the document's Right. -/
import Derived.Test.YtkchpgjjkckfbaaDoorValC
import Derived.Test.YtkchpgjjkckfbaaDoorSam0
import Derived.Test.YtkchpgjjkckfbaaDoorShelfV
import Derived.BigGuardPart
set_option linter.unusedVariables false
set_option linter.unusedSimpArgs false
namespace Go.Proofs.YtkchpgjjkckfbaaDoor
open Go.RowKit

theorem rid_any (n : Int) (w : World) : Calls Tryd.prog 96 #[.int .i64 n] w fun e w' => e = .returned (.bool (idB n)) ∧ w = w' := by
  unfold idB
  by_cases h0 : 0 ≤ n
  · by_cases h1 : n ≤ 1099511627776
    · go_enter Tryd.func96, Tryd.ntmps96
      go_wp2
      go_ret
      exact ⟨by simp [h0, h1], rfl⟩
    · go_enter Tryd.func96, Tryd.ntmps96
      go_wp2
      go_ret
      exact ⟨by simp [h0, h1], rfl⟩
  · go_enter Tryd.func96, Tryd.ntmps96
    go_wp2
    go_ret
    exact ⟨by simp [show ¬ 0 ≤ n by omega], rfl⟩
theorem valid_any (s : ByteArray) (w : World) (hs : s.size ≤ 9223372036854775807) (hT : Lib.Utf8Tabs 1 2 w) :
    Calls Tryd.prog 95 #[.string s] w fun e w' => e = .returned (.bool (Lib.validD s.data.toList)) ∧ Below w.heap.size w w' := Any.utf8_ValidString Tryd.lays196 s w hs hT
set_option maxRecDepth 100000 in
set_option maxHeartbeats 800000 in
theorem rright_0_b (n : Int) (m : Nat) (s : ByteArray) (A : Option Addr) (c : Nat) (w : World) :
    Calls Tryd.prog 64 #[.agg #[.int .i64 0, .bool true, .int .i64 n, .string s, .slice A m c]] w fun e w' => e = .returned (.bool (false)) ∧ Below w.heap.size w w' := by
  go_enter Tryd.func64, Tryd.ntmps64
  go_wp2
  go_ret
  exact ⟨rfl, below_more (Below.refl _ _) _⟩
set_option maxRecDepth 100000 in
set_option maxHeartbeats 800000 in
theorem rright_0_s (n : Int) (m : Nat) (s : ByteArray) (A : Option Addr) (c : Nat) (w : World) (hs : s.toList.isEmpty = false) :
    Calls Tryd.prog 64 #[.agg #[.int .i64 0, .bool false, .int .i64 n, .string s, .slice A m c]] w fun e w' => e = .returned (.bool (false)) ∧ Below w.heap.size w w' := by
  go_enter Tryd.func64, Tryd.ntmps64
  go_wp2
  go_ret
  exact ⟨rfl, below_more (Below.refl _ _) _⟩
set_option maxRecDepth 100000 in
set_option maxHeartbeats 800000 in
theorem rright_0_m (n : Int) (m : Nat) (s : ByteArray) (A : Option Addr) (c : Nat) (w : World) (hs : s.toList.isEmpty = true) (hm : (0 : Int) < (m : Int)) :
    Calls Tryd.prog 64 #[.agg #[.int .i64 0, .bool false, .int .i64 n, .string s, .slice A m c]] w fun e w' => e = .returned (.bool (false)) ∧ Below w.heap.size w w' := by
  go_enter Tryd.func64, Tryd.ntmps64
  go_wp2
  go_ret
  exact ⟨rfl, below_more (Below.refl _ _) _⟩
set_option maxRecDepth 100000 in
set_option maxHeartbeats 800000 in
theorem rright_0_n (n : Int) (s : ByteArray) (A : Option Addr) (c : Nat) (w : World) (hs : s.toList.isEmpty = true) (hn : ¬ n = 0) :
    Calls Tryd.prog 64 #[.agg #[.int .i64 0, .bool false, .int .i64 n, .string s, .slice A 0 c]] w fun e w' => e = .returned (.bool (false)) ∧ Below w.heap.size w w' := by
  go_enter Tryd.func64, Tryd.ntmps64
  go_wp2
  go_ret
  exact ⟨rfl, below_more (Below.refl _ _) _⟩
set_option maxRecDepth 100000 in
set_option maxHeartbeats 800000 in
theorem rright_0_ok (s : ByteArray) (A : Option Addr) (c : Nat) (w : World) (hs : s.toList.isEmpty = true) :
    Calls Tryd.prog 64 #[.agg #[.int .i64 0, .bool false, .int .i64 0, .string s, .slice A 0 c]] w fun e w' => e = .returned (.bool (true)) ∧ Below w.heap.size w w' := by
  go_enter Tryd.func64, Tryd.ntmps64
  go_wp2
  go_ret
  exact ⟨rfl, below_more (Below.refl _ _) _⟩
set_option maxRecDepth 100000 in
set_option maxHeartbeats 800000 in
theorem rright_1_s (n : Int) (b : Bool) (m : Nat) (s : ByteArray) (A : Option Addr) (c : Nat) (w : World) (hs : s.toList.isEmpty = false) :
    Calls Tryd.prog 64 #[.agg #[.int .i64 1, .bool b, .int .i64 n, .string s, .slice A m c]] w fun e w' => e = .returned (.bool (false)) ∧ Below w.heap.size w w' := by
  go_enter Tryd.func64, Tryd.ntmps64
  go_wp2
  go_ret
  exact ⟨rfl, below_more (Below.refl _ _) _⟩
set_option maxRecDepth 100000 in
set_option maxHeartbeats 800000 in
theorem rright_1_m (n : Int) (b : Bool) (m : Nat) (s : ByteArray) (A : Option Addr) (c : Nat) (w : World) (hs : s.toList.isEmpty = true) (hm : (0 : Int) < (m : Int)) :
    Calls Tryd.prog 64 #[.agg #[.int .i64 1, .bool b, .int .i64 n, .string s, .slice A m c]] w fun e w' => e = .returned (.bool (false)) ∧ Below w.heap.size w w' := by
  go_enter Tryd.func64, Tryd.ntmps64
  go_wp2
  go_ret
  exact ⟨rfl, below_more (Below.refl _ _) _⟩
set_option maxRecDepth 100000 in
set_option maxHeartbeats 800000 in
theorem rright_1_n (n : Int) (b : Bool) (s : ByteArray) (A : Option Addr) (c : Nat) (w : World) (hs : s.toList.isEmpty = true) (hn : ¬ n = 0) :
    Calls Tryd.prog 64 #[.agg #[.int .i64 1, .bool b, .int .i64 n, .string s, .slice A 0 c]] w fun e w' => e = .returned (.bool (false)) ∧ Below w.heap.size w w' := by
  go_enter Tryd.func64, Tryd.ntmps64
  go_wp2
  go_ret
  exact ⟨rfl, below_more (Below.refl _ _) _⟩
set_option maxRecDepth 100000 in
set_option maxHeartbeats 800000 in
theorem rright_1_ok (b : Bool) (s : ByteArray) (A : Option Addr) (c : Nat) (w : World) (hs : s.toList.isEmpty = true) :
    Calls Tryd.prog 64 #[.agg #[.int .i64 1, .bool b, .int .i64 0, .string s, .slice A 0 c]] w fun e w' => e = .returned (.bool (true)) ∧ Below w.heap.size w w' := by
  go_enter Tryd.func64, Tryd.ntmps64
  go_wp2
  go_ret
  exact ⟨rfl, below_more (Below.refl _ _) _⟩
set_option maxRecDepth 100000 in
set_option maxHeartbeats 800000 in
theorem rright_2_b (n : Int) (m : Nat) (s : ByteArray) (A : Option Addr) (c : Nat) (w : World) :
    Calls Tryd.prog 64 #[.agg #[.int .i64 2, .bool true, .int .i64 n, .string s, .slice A m c]] w fun e w' => e = .returned (.bool (false)) ∧ Below w.heap.size w w' := by
  go_enter Tryd.func64, Tryd.ntmps64
  go_wp2
  go_ret
  exact ⟨rfl, below_more (Below.refl _ _) _⟩
set_option maxRecDepth 100000 in
set_option maxHeartbeats 800000 in
theorem rright_2_s (n : Int) (m : Nat) (s : ByteArray) (A : Option Addr) (c : Nat) (w : World) (hs : s.toList.isEmpty = false) :
    Calls Tryd.prog 64 #[.agg #[.int .i64 2, .bool false, .int .i64 n, .string s, .slice A m c]] w fun e w' => e = .returned (.bool (false)) ∧ Below w.heap.size w w' := by
  go_enter Tryd.func64, Tryd.ntmps64
  go_wp2
  go_ret
  exact ⟨rfl, below_more (Below.refl _ _) _⟩
set_option maxRecDepth 100000 in
set_option maxHeartbeats 800000 in
theorem rright_2_m (n : Int) (m : Nat) (s : ByteArray) (A : Option Addr) (c : Nat) (w : World) (hs : s.toList.isEmpty = true) (hm : (0 : Int) < (m : Int)) :
    Calls Tryd.prog 64 #[.agg #[.int .i64 2, .bool false, .int .i64 n, .string s, .slice A m c]] w fun e w' => e = .returned (.bool (false)) ∧ Below w.heap.size w w' := by
  go_enter Tryd.func64, Tryd.ntmps64
  go_wp2
  go_ret
  exact ⟨rfl, below_more (Below.refl _ _) _⟩
set_option maxRecDepth 100000 in
set_option maxHeartbeats 800000 in
theorem rright_2_ok (n : Int) (s : ByteArray) (A : Option Addr) (c : Nat) (w : World) (hs : s.toList.isEmpty = true) :
    Calls Tryd.prog 64 #[.agg #[.int .i64 2, .bool false, .int .i64 n, .string s, .slice A 0 c]] w fun e w' => e = .returned (.bool (true)) ∧ Below w.heap.size w w' := by
  go_enter Tryd.func64, Tryd.ntmps64
  go_wp2
  go_ret
  exact ⟨rfl, below_more (Below.refl _ _) _⟩
set_option maxRecDepth 100000 in
set_option maxHeartbeats 800000 in
theorem rright_3_b (n : Int) (m : Nat) (s : ByteArray) (A : Option Addr) (c : Nat) (w : World) :
    Calls Tryd.prog 64 #[.agg #[.int .i64 3, .bool true, .int .i64 n, .string s, .slice A m c]] w fun e w' => e = .returned (.bool (false)) ∧ Below w.heap.size w w' := by
  go_enter Tryd.func64, Tryd.ntmps64
  go_wp2
  go_ret
  exact ⟨rfl, below_more (Below.refl _ _) _⟩
set_option maxRecDepth 100000 in
set_option maxHeartbeats 800000 in
theorem rright_3_m (n : Int) (m : Nat) (s : ByteArray) (A : Option Addr) (c : Nat) (w : World) (hm : (0 : Int) < (m : Int)) :
    Calls Tryd.prog 64 #[.agg #[.int .i64 3, .bool false, .int .i64 n, .string s, .slice A m c]] w fun e w' => e = .returned (.bool (false)) ∧ Below w.heap.size w w' := by
  go_enter Tryd.func64, Tryd.ntmps64
  go_wp2
  go_ret
  exact ⟨rfl, below_more (Below.refl _ _) _⟩
set_option maxRecDepth 100000 in
set_option maxHeartbeats 800000 in
theorem rright_3_n (n : Int) (s : ByteArray) (A : Option Addr) (c : Nat) (w : World) (hn : ¬ n = 0) :
    Calls Tryd.prog 64 #[.agg #[.int .i64 3, .bool false, .int .i64 n, .string s, .slice A 0 c]] w fun e w' => e = .returned (.bool (false)) ∧ Below w.heap.size w w' := by
  go_enter Tryd.func64, Tryd.ntmps64
  go_wp2
  go_ret
  exact ⟨rfl, below_more (Below.refl _ _) _⟩
set_option maxRecDepth 100000 in
set_option maxHeartbeats 800000 in
theorem rright_3_ok (s : ByteArray) (A : Option Addr) (c : Nat) (w : World) (hss : s.size ≤ 9223372036854775807) (hT : Lib.Utf8Tabs 1 2 w) :
    Calls Tryd.prog 64 #[.agg #[.int .i64 3, .bool false, .int .i64 0, .string s, .slice A 0 c]] w fun e w' => e = .returned (.bool (textB s)) ∧ Below w.heap.size w w' := by
  unfold textB
  by_cases h4 : s.size ≤ 4096
  · have h4i : (s.size : Int) ≤ 4096 := by omega
    have hV := fun W (h : Below w.heap.size w W) => valid_any s W hss (Utf8Tabs_below hT h)
    generalize Lib.validD s.data.toList = z at hV ⊢
    clear hT
    go_enter Tryd.func64, Tryd.ntmps64
    go_wp2_with (go_at_call 95; refine (hV _ (below_more (Below.refl _ _) _)).mono ?_; rintro e w2 ⟨rfl, hb2⟩)
    go_ret
    exact ⟨by simp [h4], below_then (below_more (Below.refl _ _) _) hb2⟩
  · have h4i : ¬ (s.size : Int) ≤ 4096 := by omega
    clear hT
    go_enter Tryd.func64, Tryd.ntmps64
    go_wp2
    go_ret
    exact ⟨by simp [h4], below_more (Below.refl _ _) _⟩
set_option maxRecDepth 100000 in
set_option maxHeartbeats 800000 in
theorem rright_4_b (n : Int) (m : Nat) (s : ByteArray) (A : Option Addr) (c : Nat) (w : World) :
    Calls Tryd.prog 64 #[.agg #[.int .i64 4, .bool true, .int .i64 n, .string s, .slice A m c]] w fun e w' => e = .returned (.bool (false)) ∧ Below w.heap.size w w' := by
  go_enter Tryd.func64, Tryd.ntmps64
  go_wp2
  go_ret
  exact ⟨rfl, below_more (Below.refl _ _) _⟩
set_option maxRecDepth 100000 in
set_option maxHeartbeats 800000 in
theorem rright_4_s (n : Int) (m : Nat) (s : ByteArray) (A : Option Addr) (c : Nat) (w : World) (hs : s.toList.isEmpty = false) :
    Calls Tryd.prog 64 #[.agg #[.int .i64 4, .bool false, .int .i64 n, .string s, .slice A m c]] w fun e w' => e = .returned (.bool (false)) ∧ Below w.heap.size w w' := by
  go_enter Tryd.func64, Tryd.ntmps64
  go_wp2
  go_ret
  exact ⟨rfl, below_more (Below.refl _ _) _⟩
set_option maxRecDepth 100000 in
set_option maxHeartbeats 800000 in
theorem rright_4_m (n : Int) (m : Nat) (s : ByteArray) (A : Option Addr) (c : Nat) (w : World) (hs : s.toList.isEmpty = true) (hm : (0 : Int) < (m : Int)) :
    Calls Tryd.prog 64 #[.agg #[.int .i64 4, .bool false, .int .i64 n, .string s, .slice A m c]] w fun e w' => e = .returned (.bool (false)) ∧ Below w.heap.size w w' := by
  go_enter Tryd.func64, Tryd.ntmps64
  go_wp2
  go_ret
  exact ⟨rfl, below_more (Below.refl _ _) _⟩
set_option maxRecDepth 100000 in
set_option maxHeartbeats 800000 in
theorem rright_4_ok (n : Int) (s : ByteArray) (A : Option Addr) (c : Nat) (w : World) (hs : s.toList.isEmpty = true) :
    Calls Tryd.prog 64 #[.agg #[.int .i64 4, .bool false, .int .i64 n, .string s, .slice A 0 c]] w fun e w' => e = .returned (.bool (idB n)) ∧ Below w.heap.size w w' := by
  go_enter Tryd.func64, Tryd.ntmps64
  go_wp2_with (go_at_call 96; refine (rid_any _ _).mono ?_; rintro e w2 ⟨rfl, rfl⟩)
  go_ret
  exact ⟨rfl, below_more (Below.refl _ _) _⟩
set_option maxRecDepth 100000 in
set_option maxHeartbeats 800000 in
theorem rright_5_b (n : Int) (m : Nat) (s : ByteArray) (A : Option Addr) (c : Nat) (w : World) :
    Calls Tryd.prog 64 #[.agg #[.int .i64 5, .bool true, .int .i64 n, .string s, .slice A m c]] w fun e w' => e = .returned (.bool (false)) ∧ Below w.heap.size w w' := by
  go_enter Tryd.func64, Tryd.ntmps64
  go_wp2
  go_ret
  exact ⟨rfl, below_more (Below.refl _ _) _⟩
set_option maxRecDepth 100000 in
set_option maxHeartbeats 800000 in
theorem rright_5_s (n : Int) (m : Nat) (s : ByteArray) (A : Option Addr) (c : Nat) (w : World) (hs : s.toList.isEmpty = false) :
    Calls Tryd.prog 64 #[.agg #[.int .i64 5, .bool false, .int .i64 n, .string s, .slice A m c]] w fun e w' => e = .returned (.bool (false)) ∧ Below w.heap.size w w' := by
  go_enter Tryd.func64, Tryd.ntmps64
  go_wp2
  go_ret
  exact ⟨rfl, below_more (Below.refl _ _) _⟩
set_option maxRecDepth 100000 in
set_option maxHeartbeats 800000 in
theorem rright_5_m (n : Int) (m : Nat) (s : ByteArray) (A : Option Addr) (c : Nat) (w : World) (hs : s.toList.isEmpty = true) (hm : (0 : Int) < (m : Int)) :
    Calls Tryd.prog 64 #[.agg #[.int .i64 5, .bool false, .int .i64 n, .string s, .slice A m c]] w fun e w' => e = .returned (.bool (false)) ∧ Below w.heap.size w w' := by
  go_enter Tryd.func64, Tryd.ntmps64
  go_wp2
  go_ret
  exact ⟨rfl, below_more (Below.refl _ _) _⟩
set_option maxRecDepth 100000 in
set_option maxHeartbeats 800000 in
theorem rright_5_ok (n : Int) (s : ByteArray) (A : Option Addr) (c : Nat) (w : World) (hs : s.toList.isEmpty = true) :
    Calls Tryd.prog 64 #[.agg #[.int .i64 5, .bool false, .int .i64 n, .string s, .slice A 0 c]] w fun e w' => e = .returned (.bool (idB n)) ∧ Below w.heap.size w w' := by
  go_enter Tryd.func64, Tryd.ntmps64
  go_wp2_with (go_at_call 96; refine (rid_any _ _).mono ?_; rintro e w2 ⟨rfl, rfl⟩)
  go_ret
  exact ⟨rfl, below_more (Below.refl _ _) _⟩
set_option maxRecDepth 100000 in
set_option maxHeartbeats 800000 in
theorem rright_6_b (n : Int) (m : Nat) (s : ByteArray) (A : Option Addr) (c : Nat) (w : World) :
    Calls Tryd.prog 64 #[.agg #[.int .i64 6, .bool true, .int .i64 n, .string s, .slice A m c]] w fun e w' => e = .returned (.bool (false)) ∧ Below w.heap.size w w' := by
  go_enter Tryd.func64, Tryd.ntmps64
  go_wp2
  go_ret
  exact ⟨rfl, below_more (Below.refl _ _) _⟩
set_option maxRecDepth 100000 in
set_option maxHeartbeats 800000 in
theorem rright_6_s (n : Int) (m : Nat) (s : ByteArray) (A : Option Addr) (c : Nat) (w : World) (hs : s.toList.isEmpty = false) :
    Calls Tryd.prog 64 #[.agg #[.int .i64 6, .bool false, .int .i64 n, .string s, .slice A m c]] w fun e w' => e = .returned (.bool (false)) ∧ Below w.heap.size w w' := by
  go_enter Tryd.func64, Tryd.ntmps64
  go_wp2
  go_ret
  exact ⟨rfl, below_more (Below.refl _ _) _⟩
set_option maxRecDepth 100000 in
set_option maxHeartbeats 800000 in
theorem rright_6_n (n : Int) (m : Nat) (s : ByteArray) (A : Option Addr) (c : Nat) (w : World) (hs : s.toList.isEmpty = true) (hn : ¬ n = 0) :
    Calls Tryd.prog 64 #[.agg #[.int .i64 6, .bool false, .int .i64 n, .string s, .slice A m c]] w fun e w' => e = .returned (.bool (false)) ∧ Below w.heap.size w w' := by
  go_enter Tryd.func64, Tryd.ntmps64
  go_wp2
  go_ret
  exact ⟨rfl, below_more (Below.refl _ _) _⟩
set_option maxRecDepth 100000 in
set_option maxHeartbeats 800000 in
theorem rright_x_b (k : Int) (e0 : (k == 0) = false) (d0 : (k != 0) = true) (e1 : (k == 1) = false) (d1 : (k != 1) = true) (e2 : (k == 2) = false) (d2 : (k != 2) = true) (e3 : (k == 3) = false) (d3 : (k != 3) = true) (e4 : (k == 4) = false) (d4 : (k != 4) = true) (e5 : (k == 5) = false) (d5 : (k != 5) = true) (e6 : (k == 6) = false) (d6 : (k != 6) = true) (n : Int) (m : Nat) (s : ByteArray) (A : Option Addr) (c : Nat) (w : World) :
    Calls Tryd.prog 64 #[.agg #[.int .i64 k, .bool true, .int .i64 n, .string s, .slice A m c]] w fun e w' => e = .returned (.bool (false)) ∧ Below w.heap.size w w' := by
  go_enter Tryd.func64, Tryd.ntmps64
  go_wp2
  go_ret
  exact ⟨rfl, below_more (Below.refl _ _) _⟩
set_option maxRecDepth 100000 in
set_option maxHeartbeats 800000 in
theorem rright_x_s (k : Int) (e0 : (k == 0) = false) (d0 : (k != 0) = true) (e1 : (k == 1) = false) (d1 : (k != 1) = true) (e2 : (k == 2) = false) (d2 : (k != 2) = true) (e3 : (k == 3) = false) (d3 : (k != 3) = true) (e4 : (k == 4) = false) (d4 : (k != 4) = true) (e5 : (k == 5) = false) (d5 : (k != 5) = true) (e6 : (k == 6) = false) (d6 : (k != 6) = true) (n : Int) (m : Nat) (s : ByteArray) (A : Option Addr) (c : Nat) (w : World) (hs : s.toList.isEmpty = false) :
    Calls Tryd.prog 64 #[.agg #[.int .i64 k, .bool false, .int .i64 n, .string s, .slice A m c]] w fun e w' => e = .returned (.bool (false)) ∧ Below w.heap.size w w' := by
  go_enter Tryd.func64, Tryd.ntmps64
  go_wp2
  go_ret
  exact ⟨rfl, below_more (Below.refl _ _) _⟩
set_option maxRecDepth 100000 in
set_option maxHeartbeats 800000 in
theorem rright_x_m (k : Int) (e0 : (k == 0) = false) (d0 : (k != 0) = true) (e1 : (k == 1) = false) (d1 : (k != 1) = true) (e2 : (k == 2) = false) (d2 : (k != 2) = true) (e3 : (k == 3) = false) (d3 : (k != 3) = true) (e4 : (k == 4) = false) (d4 : (k != 4) = true) (e5 : (k == 5) = false) (d5 : (k != 5) = true) (e6 : (k == 6) = false) (d6 : (k != 6) = true) (n : Int) (m : Nat) (s : ByteArray) (A : Option Addr) (c : Nat) (w : World) (hs : s.toList.isEmpty = true) (hm : (0 : Int) < (m : Int)) :
    Calls Tryd.prog 64 #[.agg #[.int .i64 k, .bool false, .int .i64 n, .string s, .slice A m c]] w fun e w' => e = .returned (.bool (false)) ∧ Below w.heap.size w w' := by
  go_enter Tryd.func64, Tryd.ntmps64
  go_wp2
  go_ret
  exact ⟨rfl, below_more (Below.refl _ _) _⟩
set_option maxRecDepth 100000 in
set_option maxHeartbeats 800000 in
theorem rright_x_n (k : Int) (e0 : (k == 0) = false) (d0 : (k != 0) = true) (e1 : (k == 1) = false) (d1 : (k != 1) = true) (e2 : (k == 2) = false) (d2 : (k != 2) = true) (e3 : (k == 3) = false) (d3 : (k != 3) = true) (e4 : (k == 4) = false) (d4 : (k != 4) = true) (e5 : (k == 5) = false) (d5 : (k != 5) = true) (e6 : (k == 6) = false) (d6 : (k != 6) = true) (n : Int) (s : ByteArray) (A : Option Addr) (c : Nat) (w : World) (hs : s.toList.isEmpty = true) (hn : ¬ n = 0) :
    Calls Tryd.prog 64 #[.agg #[.int .i64 k, .bool false, .int .i64 n, .string s, .slice A 0 c]] w fun e w' => e = .returned (.bool (false)) ∧ Below w.heap.size w w' := by
  go_enter Tryd.func64, Tryd.ntmps64
  go_wp2
  go_ret
  exact ⟨rfl, below_more (Below.refl _ _) _⟩
set_option maxRecDepth 100000 in
set_option maxHeartbeats 800000 in
theorem rright_x_ok (k : Int) (e0 : (k == 0) = false) (d0 : (k != 0) = true) (e1 : (k == 1) = false) (d1 : (k != 1) = true) (e2 : (k == 2) = false) (d2 : (k != 2) = true) (e3 : (k == 3) = false) (d3 : (k != 3) = true) (e4 : (k == 4) = false) (d4 : (k != 4) = true) (e5 : (k == 5) = false) (d5 : (k != 5) = true) (e6 : (k == 6) = false) (d6 : (k != 6) = true) (s : ByteArray) (A : Option Addr) (c : Nat) (w : World) (hs : s.toList.isEmpty = true) :
    Calls Tryd.prog 64 #[.agg #[.int .i64 k, .bool false, .int .i64 0, .string s, .slice A 0 c]] w fun e w' => e = .returned (.bool (false)) ∧ Below w.heap.size w w' := by
  go_enter Tryd.func64, Tryd.ntmps64
  go_wp2
  go_ret
  exact ⟨rfl, below_more (Below.refl _ _) _⟩
set_option maxRecDepth 100000 in
set_option maxHeartbeats 1600000 in
theorem rright_6_ok (s : ByteArray) (A : Option Addr) (p : List Int) (c : Nat) (w : World) (hr : ReadsI w A p) (hs : s.toList.isEmpty = true) :
    Calls Tryd.prog 64 #[.agg #[.int .i64 6, .bool false, .int .i64 0, .string s, .slice A p.length c]] w fun e w' => e = .returned (.bool (decide (0 < p.length) && decide (p.length ≤ 9) && p.all idB)) ∧ Below w.heap.size w w' := by
  obtain ⟨ANS, hANS⟩ : ∃ ANS, (decide (0 < p.length) && decide (p.length ≤ 9) && p.all idB) = ANS := ⟨_, rfl⟩
  rw [hANS]
  obtain ⟨m, hm⟩ : ∃ m, m = p.length := ⟨_, rfl⟩
  rw [← hm] at hANS ⊢
  by_cases h1 : (m : Int) < 1
  · have : ANS = false := by rw [← hANS]; simp [show ¬ 0 < m by omega]
    subst this
    clear hANS hr hm
    go_enter Tryd.func64, Tryd.ntmps64
    go_wp2
    go_ret
    exact ⟨rfl, below_more (Below.refl _ _) _⟩
  by_cases h9 : (m : Int) > 9
  · have : ANS = false := by rw [← hANS]; simp [show ¬ m ≤ 9 by omega]
    subst this
    clear hANS hr hm
    go_enter Tryd.func64, Tryd.ntmps64
    go_wp2
    go_ret
    exact ⟨rfl, below_more (Below.refl _ _) _⟩
  have hA : p.all idB = ANS := by rw [← hANS]; simp [show 0 < m by omega, show m ≤ 9 by omega]
  have HM := Aside0.mk hm
  have HA := Aside0.mk hA
  have HR := Aside0.mk hr
  clear hANS hr hm hA
  go_enter Tryd.func64, Tryd.ntmps64
  go_wp2
  go_loopg [3] (m + 1) (fun gg s3 wr => ∃ k : Nat, k ≤ m ∧ m < gg + k ∧ s3 = .int .i64 k ∧ Below w.heap.size w wr ∧ w.heap.size < wr.heap.size ∧ (∀ i, wr.cell? ⟨w.heap.size, i, none⟩ = (#[.int .i64 6, .bool false, .int .i64 0, .string s, .slice A m c] : Array Value)[i]?) ∧ Aside0 ((p.drop k).all idB = ANS))
  case atStart => exact ⟨0, Nat.zero_le _, by omega, rfl, below_more (Below.refl _ _) _, by simp, fun i => by simp [go_sem], ⟨HA.out⟩⟩
  case round =>
    obtain ⟨k, hk, hg, rfl, HBr, hsz, hbx0, HB⟩ := hrel
    by_cases hlt : k < m
    · have hlti : (k : Int) < (m : Int) := by omega
      have hk0 : (0 : Int) ≤ (k : Int) := by omega
      obtain ⟨ad, rfl, hcell⟩ := (HR.out.below HBr).at_ k (by have := HM.out; omega)
      have hdrop := drop_getD' p k (by have := HM.out; omega)
      generalize hy : p.getD k 0 = y at hcell hdrop
      have HD := Aside0.mk hdrop
      clear hy hdrop
      have hI := fun W => rid_any y W
      by_cases hq : idB y = true
      · rw [hq] at hI
        have HQ := Aside0.mk hq
        clear hq
        go_wp2_with (go_at_call 96; refine (hI _).mono ?_; rintro e w2 ⟨rfl, rfl⟩)
        go_roundg (gk - 1)
        case measure => omega
        case rel =>
          refine ⟨k + 1, by omega, by omega, by go_num, HBr, hsz, hbx0, ⟨?_⟩⟩
          have := HB.out
          rw [HD.out] at this
          simpa [HQ.out] using this
      · have hq' : idB y = false := by simpa using hq
        rw [hq'] at hI
        have hz : ANS = false := by
          have := HB.out
          rw [HD.out] at this
          simpa [hq'] using this.symm
        subst hz
        clear hq hq'
        go_wp2_with (go_at_call 96; refine (hI _).mono ?_; rintro e w2 ⟨rfl, rfl⟩)
        go_ret
        exact ⟨rfl, HBr⟩
    · obtain rfl : k = m := by omega
      have hz : ANS = true := by
        have := HB.out
        rw [HM.out] at this
        simpa using this.symm
      subst hz
      clear hlt
      go_wp2
      go_ret
      exact ⟨rfl, HBr⟩

theorem rright_any (k n : Int) (b : Bool) (s : ByteArray) (A : Option Addr) (p : List Int) (c : Nat) (w : World) (hr : ReadsI w A p) (hss : s.size ≤ 9223372036854775807) (hT : Lib.Utf8Tabs 1 2 w) :
    Calls Tryd.prog 64 #[.agg #[.int .i64 k, .bool b, .int .i64 n, .string s, .slice A p.length c]] w fun e w' => e = .returned (.bool (rightB k b n s p)) ∧ Below w.heap.size w w' := by
  have hm0 : ∀ m : Nat, ¬ m = 0 → (0 : Int) < (m : Int) := fun m h => by omega
  by_cases k0 : k = 0
  · subst k0
    by_cases hb : b = true
    · subst hb
      simpa [rightB] using rright_0_b n p.length s A c w
    have hb : b = false := by simpa using hb
    subst hb
    by_cases hs : s.size = 0
    rotate_left
    · simpa [rightB, hs] using rright_0_s n p.length s A c w (not_isEmpty_of hs)
    by_cases hp : p.length = 0
    rotate_left
    · simpa [rightB, hp] using rright_0_m n p.length s A c w (isEmpty_of hs) (hm0 _ hp)
    rw [hp]
    by_cases hn : n = 0
    rotate_left
    · simpa [rightB, show (n == 0) = false from beq_eq_false_iff_ne.2 hn] using rright_0_n n s A c w (isEmpty_of hs) hn
    subst hn
    simpa [rightB, hs, hp] using rright_0_ok s A c w (isEmpty_of hs) 
  by_cases k1 : k = 1
  · subst k1
    by_cases hs : s.size = 0
    rotate_left
    · simpa [rightB, hs] using rright_1_s n b p.length s A c w (not_isEmpty_of hs)
    by_cases hp : p.length = 0
    rotate_left
    · simpa [rightB, hp] using rright_1_m n b p.length s A c w (isEmpty_of hs) (hm0 _ hp)
    rw [hp]
    by_cases hn : n = 0
    rotate_left
    · simpa [rightB, show (n == 0) = false from beq_eq_false_iff_ne.2 hn] using rright_1_n n b s A c w (isEmpty_of hs) hn
    subst hn
    simpa [rightB, hs, hp] using rright_1_ok b s A c w (isEmpty_of hs) 
  by_cases k2 : k = 2
  · subst k2
    by_cases hb : b = true
    · subst hb
      simpa [rightB] using rright_2_b n p.length s A c w
    have hb : b = false := by simpa using hb
    subst hb
    by_cases hs : s.size = 0
    rotate_left
    · simpa [rightB, hs] using rright_2_s n p.length s A c w (not_isEmpty_of hs)
    by_cases hp : p.length = 0
    rotate_left
    · simpa [rightB, hp] using rright_2_m n p.length s A c w (isEmpty_of hs) (hm0 _ hp)
    rw [hp]
    simpa [rightB, hs, hp] using rright_2_ok n s A c w (isEmpty_of hs) 
  by_cases k3 : k = 3
  · subst k3
    by_cases hb : b = true
    · subst hb
      simpa [rightB] using rright_3_b n p.length s A c w
    have hb : b = false := by simpa using hb
    subst hb
    by_cases hp : p.length = 0
    rotate_left
    · simpa [rightB, hp] using rright_3_m n p.length s A c w (hm0 _ hp)
    rw [hp]
    by_cases hn : n = 0
    rotate_left
    · simpa [rightB, show (n == 0) = false from beq_eq_false_iff_ne.2 hn] using rright_3_n n s A c w hn
    subst hn
    simpa [rightB, hp] using rright_3_ok s A c w hss hT
  by_cases k4 : k = 4
  · subst k4
    by_cases hb : b = true
    · subst hb
      simpa [rightB] using rright_4_b n p.length s A c w
    have hb : b = false := by simpa using hb
    subst hb
    by_cases hs : s.size = 0
    rotate_left
    · simpa [rightB, hs] using rright_4_s n p.length s A c w (not_isEmpty_of hs)
    by_cases hp : p.length = 0
    rotate_left
    · simpa [rightB, hp] using rright_4_m n p.length s A c w (isEmpty_of hs) (hm0 _ hp)
    rw [hp]
    simpa [rightB, hs, hp] using rright_4_ok n s A c w (isEmpty_of hs) 
  by_cases k5 : k = 5
  · subst k5
    by_cases hb : b = true
    · subst hb
      simpa [rightB] using rright_5_b n p.length s A c w
    have hb : b = false := by simpa using hb
    subst hb
    by_cases hs : s.size = 0
    rotate_left
    · simpa [rightB, hs] using rright_5_s n p.length s A c w (not_isEmpty_of hs)
    by_cases hp : p.length = 0
    rotate_left
    · simpa [rightB, hp] using rright_5_m n p.length s A c w (isEmpty_of hs) (hm0 _ hp)
    rw [hp]
    simpa [rightB, hs, hp] using rright_5_ok n s A c w (isEmpty_of hs) 
  by_cases k6 : k = 6
  · subst k6
    by_cases hb : b = true
    · subst hb
      simpa [rightB] using rright_6_b n p.length s A c w
    have hb : b = false := by simpa using hb
    subst hb
    by_cases hs : s.size = 0
    rotate_left
    · simpa [rightB, hs] using rright_6_s n p.length s A c w (not_isEmpty_of hs)
    by_cases hn : n = 0
    rotate_left
    · simpa [rightB, show (n == 0) = false from beq_eq_false_iff_ne.2 hn] using rright_6_n n p.length s A c w (isEmpty_of hs) hn
    subst hn
    simpa [rightB, hs] using rright_6_ok s A p c w hr (isEmpty_of hs)
  have e0 : (k == 0) = false := by simpa using k0
  have d0 : (k != 0) = true := by simpa using k0
  have e1 : (k == 1) = false := by simpa using k1
  have d1 : (k != 1) = true := by simpa using k1
  have e2 : (k == 2) = false := by simpa using k2
  have d2 : (k != 2) = true := by simpa using k2
  have e3 : (k == 3) = false := by simpa using k3
  have d3 : (k != 3) = true := by simpa using k3
  have e4 : (k == 4) = false := by simpa using k4
  have d4 : (k != 4) = true := by simpa using k4
  have e5 : (k == 5) = false := by simpa using k5
  have d5 : (k != 5) = true := by simpa using k5
  have e6 : (k == 6) = false := by simpa using k6
  have d6 : (k != 6) = true := by simpa using k6
  by_cases hb : b = true
  · subst hb
    simpa [rightB, k0, k1, k2, k3, k4, k5, k6] using rright_x_b k e0 d0 e1 d1 e2 d2 e3 d3 e4 d4 e5 d5 e6 d6 n p.length s A c w
  have hb : b = false := by simpa using hb
  subst hb
  by_cases hs : s.size = 0
  rotate_left
  · simpa [rightB, hs, k0, k1, k2, k3, k4, k5, k6] using rright_x_s k e0 d0 e1 d1 e2 d2 e3 d3 e4 d4 e5 d5 e6 d6 n p.length s A c w (not_isEmpty_of hs)
  by_cases hp : p.length = 0
  rotate_left
  · simpa [rightB, hp, k0, k1, k2, k3, k4, k5, k6] using rright_x_m k e0 d0 e1 d1 e2 d2 e3 d3 e4 d4 e5 d5 e6 d6 n p.length s A c w (isEmpty_of hs) (hm0 _ hp)
  rw [hp]
  by_cases hn : n = 0
  rotate_left
  · simpa [rightB, show (n == 0) = false from beq_eq_false_iff_ne.2 hn, k0, k1, k2, k3, k4, k5, k6] using rright_x_n k e0 d0 e1 d1 e2 d2 e3 d3 e4 d4 e5 d5 e6 d6 n s A c w (isEmpty_of hs) hn
  subst hn
  simpa [rightB, hs, hp, k0, k1, k2, k3, k4, k5, k6] using rright_x_ok k e0 d0 e1 d1 e2 d2 e3 d3 e4 d4 e5 d5 e6 d6 s A c w (isEmpty_of hs) 
end Go.Proofs.YtkchpgjjkckfbaaDoor
