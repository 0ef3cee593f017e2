/- The walks of value.bare and value.Right. -/
import Derived.Test.YtkchpgjjkckfbaaDoorValA
import Derived.BigGuardPart
set_option linter.unusedVariables false
set_option linter.unusedSimpArgs false
namespace Go.Proofs.YtkchpgjjkckfbaaDoor
open Go.RowKit

theorem bare_0 (n : Int) (b : Bool) (s : ByteArray) (A : Option Addr) (m c : Nat) (w : World) :
    Calls Tryd.prog 87 #[.agg #[.int .i64 0, .bool b, .int .i64 n, .string s, .slice A m c]] w fun e w' => e = .returned (.agg #[.int .i64 0, .bool false, .int .i64 0, .string ⟨#[]⟩, .slice none 0 0]) ∧ Below w.heap.size w w' := by
  go_enter Tryd.func87, Tryd.ntmps87
  go_wp2
  exact bodyPost_ret (v := .agg #[.int .i64 0, .bool false, .int .i64 0, .string ⟨#[]⟩, .slice none 0 0]) (by simp [results, Tryd.results87, go_sem]) rfl ⟨rfl, ((((Below.refl _ _).alloc (Nat.le_refl _) _).alloc (by simp) _).alloc (by simp; omega) _)⟩
theorem bare_1 (n : Int) (b : Bool) (s : ByteArray) (A : Option Addr) (m c : Nat) (w : World) :
    Calls Tryd.prog 87 #[.agg #[.int .i64 1, .bool b, .int .i64 n, .string s, .slice A m c]] w fun e w' => e = .returned (.agg #[.int .i64 1, .bool b, .int .i64 0, .string ⟨#[]⟩, .slice none 0 0]) ∧ Below w.heap.size w w' := by
  go_enter Tryd.func87, Tryd.ntmps87
  go_wp2
  exact bodyPost_ret (v := .agg #[.int .i64 1, .bool b, .int .i64 0, .string ⟨#[]⟩, .slice none 0 0]) (by simp [results, Tryd.results87, go_sem]) rfl ⟨rfl, ((((Below.refl _ _).alloc (Nat.le_refl _) _).alloc (by simp) _).alloc (by simp; omega) _)⟩
theorem bare_2 (n : Int) (b : Bool) (s : ByteArray) (A : Option Addr) (m c : Nat) (w : World) :
    Calls Tryd.prog 87 #[.agg #[.int .i64 2, .bool b, .int .i64 n, .string s, .slice A m c]] w fun e w' => e = .returned (.agg #[.int .i64 2, .bool false, .int .i64 n, .string ⟨#[]⟩, .slice none 0 0]) ∧ Below w.heap.size w w' := by
  go_enter Tryd.func87, Tryd.ntmps87
  go_wp2
  exact bodyPost_ret (v := .agg #[.int .i64 2, .bool false, .int .i64 n, .string ⟨#[]⟩, .slice none 0 0]) (by simp [results, Tryd.results87, go_sem]) rfl ⟨rfl, ((((Below.refl _ _).alloc (Nat.le_refl _) _).alloc (by simp) _).alloc (by simp; omega) _)⟩
theorem bare_3 (n : Int) (b : Bool) (s : ByteArray) (A : Option Addr) (m c : Nat) (w : World) :
    Calls Tryd.prog 87 #[.agg #[.int .i64 3, .bool b, .int .i64 n, .string s, .slice A m c]] w fun e w' => e = .returned (.agg #[.int .i64 3, .bool false, .int .i64 0, .string s, .slice none 0 0]) ∧ Below w.heap.size w w' := by
  go_enter Tryd.func87, Tryd.ntmps87
  go_wp2
  exact bodyPost_ret (v := .agg #[.int .i64 3, .bool false, .int .i64 0, .string s, .slice none 0 0]) (by simp [results, Tryd.results87, go_sem]) rfl ⟨rfl, ((((Below.refl _ _).alloc (Nat.le_refl _) _).alloc (by simp) _).alloc (by simp; omega) _)⟩
theorem bare_4 (n : Int) (b : Bool) (s : ByteArray) (A : Option Addr) (m c : Nat) (w : World) :
    Calls Tryd.prog 87 #[.agg #[.int .i64 4, .bool b, .int .i64 n, .string s, .slice A m c]] w fun e w' => e = .returned (.agg #[.int .i64 4, .bool false, .int .i64 n, .string ⟨#[]⟩, .slice none 0 0]) ∧ Below w.heap.size w w' := by
  go_enter Tryd.func87, Tryd.ntmps87
  go_wp2
  exact bodyPost_ret (v := .agg #[.int .i64 4, .bool false, .int .i64 n, .string ⟨#[]⟩, .slice none 0 0]) (by simp [results, Tryd.results87, go_sem]) rfl ⟨rfl, ((((Below.refl _ _).alloc (Nat.le_refl _) _).alloc (by simp) _).alloc (by simp; omega) _)⟩
theorem bare_5 (n : Int) (b : Bool) (s : ByteArray) (A : Option Addr) (m c : Nat) (w : World) :
    Calls Tryd.prog 87 #[.agg #[.int .i64 5, .bool b, .int .i64 n, .string s, .slice A m c]] w fun e w' => e = .returned (.agg #[.int .i64 5, .bool false, .int .i64 n, .string ⟨#[]⟩, .slice none 0 0]) ∧ Below w.heap.size w w' := by
  go_enter Tryd.func87, Tryd.ntmps87
  go_wp2
  exact bodyPost_ret (v := .agg #[.int .i64 5, .bool false, .int .i64 n, .string ⟨#[]⟩, .slice none 0 0]) (by simp [results, Tryd.results87, go_sem]) rfl ⟨rfl, ((((Below.refl _ _).alloc (Nat.le_refl _) _).alloc (by simp) _).alloc (by simp; omega) _)⟩
theorem bare_6 (n : Int) (b : Bool) (s : ByteArray) (A : Option Addr) (m c : Nat) (w : World) :
    Calls Tryd.prog 87 #[.agg #[.int .i64 6, .bool b, .int .i64 n, .string s, .slice A m c]] w fun e w' => e = .returned (.agg #[.int .i64 6, .bool false, .int .i64 0, .string ⟨#[]⟩, .slice A m c]) ∧ Below w.heap.size w w' := by
  go_enter Tryd.func87, Tryd.ntmps87
  go_wp2
  exact bodyPost_ret (v := .agg #[.int .i64 6, .bool false, .int .i64 0, .string ⟨#[]⟩, .slice A m c]) (by simp [results, Tryd.results87, go_sem]) rfl ⟨rfl, ((((Below.refl _ _).alloc (Nat.le_refl _) _).alloc (by simp) _).alloc (by simp; omega) _)⟩
theorem bare_x (k : Int) (e0 : (k == 0) = false) (e1 : (k == 1) = false) (e2 : (k == 2) = false) (e3 : (k == 3) = false) (e4 : (k == 4) = false) (e5 : (k == 5) = false) (e6 : (k == 6) = false) (n : Int) (b : Bool) (s : ByteArray) (A : Option Addr) (m c : Nat) (w : World) :
    Calls Tryd.prog 87 #[.agg #[.int .i64 k, .bool b, .int .i64 n, .string s, .slice A m c]] w fun e w' => e = .returned (.agg #[.int .i64 k, .bool false, .int .i64 0, .string ⟨#[]⟩, .slice none 0 0]) ∧ Below w.heap.size w w' := by
  go_enter Tryd.func87, Tryd.ntmps87
  go_wp2
  exact bodyPost_ret (v := .agg #[.int .i64 k, .bool false, .int .i64 0, .string ⟨#[]⟩, .slice none 0 0]) (by simp [results, Tryd.results87, go_sem]) rfl ⟨rfl, ((((Below.refl _ _).alloc (Nat.le_refl _) _).alloc (by simp) _).alloc (by simp; omega) _)⟩
set_option maxRecDepth 100000 in
set_option maxHeartbeats 400000 in
theorem right_0_b (n : Int) (s : ByteArray) (A : Option Addr) (m c : Nat) (w : World) :
    Calls Tryd.prog 61 #[.agg #[.int .i64 0, .bool true, .int .i64 n, .string s, .slice A m c]] w fun e w' => e = .returned (.bool false) ∧ Below w.heap.size w w' := by
  go_enter Tryd.func61, Tryd.ntmps61
  go_wp2_with ((go_at_call 87; refine (bare_0 _ _ _ _ _ _ _).mono ?_; rintro e w1 ⟨rfl, hb1⟩; obtain ⟨hc1, hf1⟩ := bcell hb1; have hz1 : w.heap.size < w1.heap.size := by (have := hb1.size; simp at this; omega)))
  go_ret
  exact ⟨rfl, below_more (below_box hb1) _⟩
set_option maxRecDepth 100000 in
set_option maxHeartbeats 400000 in
theorem right_0_n (n : Int) (s : ByteArray) (A : Option Addr) (m c : Nat) (w : World) (hn : ¬ (0 : Int) = n) :
    Calls Tryd.prog 61 #[.agg #[.int .i64 0, .bool false, .int .i64 n, .string s, .slice A m c]] w fun e w' => e = .returned (.bool false) ∧ Below w.heap.size w w' := by
  go_enter Tryd.func61, Tryd.ntmps61
  go_wp2_with ((go_at_call 87; refine (bare_0 _ _ _ _ _ _ _).mono ?_; rintro e w1 ⟨rfl, hb1⟩; obtain ⟨hc1, hf1⟩ := bcell hb1; have hz1 : w.heap.size < w1.heap.size := by (have := hb1.size; simp at this; omega)))
  go_ret
  exact ⟨rfl, below_more (below_box hb1) _⟩
set_option maxRecDepth 100000 in
set_option maxHeartbeats 400000 in
theorem right_0_s (s : ByteArray) (A : Option Addr) (m c : Nat) (w : World) (hs : s.toList.isEmpty = false) :
    Calls Tryd.prog 61 #[.agg #[.int .i64 0, .bool false, .int .i64 0, .string s, .slice A m c]] w fun e w' => e = .returned (.bool false) ∧ Below w.heap.size w w' := by
  go_enter Tryd.func61, Tryd.ntmps61
  go_wp2_with ((go_at_call 87; refine (bare_0 _ _ _ _ _ _ _).mono ?_; rintro e w1 ⟨rfl, hb1⟩; obtain ⟨hc1, hf1⟩ := bcell hb1; have hz1 : w.heap.size < w1.heap.size := by (have := hb1.size; simp at this; omega)))
  go_ret
  exact ⟨rfl, below_more (below_box hb1) _⟩
set_option maxRecDepth 100000 in
set_option maxHeartbeats 400000 in
theorem right_0_m (s : ByteArray) (A : Option Addr) (m c : Nat) (w : World) (hs : s.toList.isEmpty = true) (hm : ((0 : Int) != (m : Int)) = true) :
    Calls Tryd.prog 61 #[.agg #[.int .i64 0, .bool false, .int .i64 0, .string s, .slice A m c]] w fun e w' => e = .returned (.bool false) ∧ Below w.heap.size w w' := by
  go_enter Tryd.func61, Tryd.ntmps61
  go_wp2_with ((go_at_call 87; refine (bare_0 _ _ _ _ _ _ _).mono ?_; rintro e w1 ⟨rfl, hb1⟩; obtain ⟨hc1, hf1⟩ := bcell hb1; have hz1 : w.heap.size < w1.heap.size := by (have := hb1.size; simp at this; omega)))
  go_ret
  exact ⟨rfl, below_more (below_box hb1) _⟩
set_option maxRecDepth 100000 in
set_option maxHeartbeats 400000 in
theorem right_0_ok (s : ByteArray) (A : Option Addr) (c : Nat) (w : World) (hs : s.toList.isEmpty = true) :
    Calls Tryd.prog 61 #[.agg #[.int .i64 0, .bool false, .int .i64 0, .string s, .slice A 0 c]] w fun e w' => e = .returned (.bool (true)) ∧ Below w.heap.size w w' := by
  go_enter Tryd.func61, Tryd.ntmps61
  go_wp2_with ((go_at_call 87; refine (bare_0 _ _ _ _ _ _ _).mono ?_; rintro e w1 ⟨rfl, hb1⟩; obtain ⟨hc1, hf1⟩ := bcell hb1; have hz1 : w.heap.size < w1.heap.size := by (have := hb1.size; simp at this; omega)))
  go_ret
  exact ⟨rfl, below_more (below_box hb1) _⟩
set_option maxRecDepth 100000 in
set_option maxHeartbeats 400000 in
theorem right_1_n (n : Int) (b : Bool) (s : ByteArray) (A : Option Addr) (m c : Nat) (w : World) (hn : ¬ (0 : Int) = n) :
    Calls Tryd.prog 61 #[.agg #[.int .i64 1, .bool b, .int .i64 n, .string s, .slice A m c]] w fun e w' => e = .returned (.bool false) ∧ Below w.heap.size w w' := by
  go_enter Tryd.func61, Tryd.ntmps61
  go_wp2_with ((go_at_call 87; refine (bare_1 _ _ _ _ _ _ _).mono ?_; rintro e w1 ⟨rfl, hb1⟩; obtain ⟨hc1, hf1⟩ := bcell hb1; have hz1 : w.heap.size < w1.heap.size := by (have := hb1.size; simp at this; omega)))
  go_ret
  exact ⟨rfl, below_more (below_box hb1) _⟩
set_option maxRecDepth 100000 in
set_option maxHeartbeats 400000 in
theorem right_1_s (b : Bool) (s : ByteArray) (A : Option Addr) (m c : Nat) (w : World) (hs : s.toList.isEmpty = false) :
    Calls Tryd.prog 61 #[.agg #[.int .i64 1, .bool b, .int .i64 0, .string s, .slice A m c]] w fun e w' => e = .returned (.bool false) ∧ Below w.heap.size w w' := by
  go_enter Tryd.func61, Tryd.ntmps61
  go_wp2_with ((go_at_call 87; refine (bare_1 _ _ _ _ _ _ _).mono ?_; rintro e w1 ⟨rfl, hb1⟩; obtain ⟨hc1, hf1⟩ := bcell hb1; have hz1 : w.heap.size < w1.heap.size := by (have := hb1.size; simp at this; omega)))
  go_ret
  exact ⟨rfl, below_more (below_box hb1) _⟩
set_option maxRecDepth 100000 in
set_option maxHeartbeats 400000 in
theorem right_1_m (b : Bool) (s : ByteArray) (A : Option Addr) (m c : Nat) (w : World) (hs : s.toList.isEmpty = true) (hm : ((0 : Int) != (m : Int)) = true) :
    Calls Tryd.prog 61 #[.agg #[.int .i64 1, .bool b, .int .i64 0, .string s, .slice A m c]] w fun e w' => e = .returned (.bool false) ∧ Below w.heap.size w w' := by
  go_enter Tryd.func61, Tryd.ntmps61
  go_wp2_with ((go_at_call 87; refine (bare_1 _ _ _ _ _ _ _).mono ?_; rintro e w1 ⟨rfl, hb1⟩; obtain ⟨hc1, hf1⟩ := bcell hb1; have hz1 : w.heap.size < w1.heap.size := by (have := hb1.size; simp at this; omega)))
  go_ret
  exact ⟨rfl, below_more (below_box hb1) _⟩
set_option maxRecDepth 100000 in
set_option maxHeartbeats 400000 in
theorem right_1_ok (b : Bool) (s : ByteArray) (A : Option Addr) (c : Nat) (w : World) (hs : s.toList.isEmpty = true) :
    Calls Tryd.prog 61 #[.agg #[.int .i64 1, .bool b, .int .i64 0, .string s, .slice A 0 c]] w fun e w' => e = .returned (.bool (true)) ∧ Below w.heap.size w w' := by
  go_enter Tryd.func61, Tryd.ntmps61
  go_wp2_with ((go_at_call 87; refine (bare_1 _ _ _ _ _ _ _).mono ?_; rintro e w1 ⟨rfl, hb1⟩; obtain ⟨hc1, hf1⟩ := bcell hb1; have hz1 : w.heap.size < w1.heap.size := by (have := hb1.size; simp at this; omega)))
  go_ret
  exact ⟨rfl, below_more (below_box hb1) _⟩
set_option maxRecDepth 100000 in
set_option maxHeartbeats 400000 in
theorem right_2_b (n : Int) (s : ByteArray) (A : Option Addr) (m c : Nat) (w : World) :
    Calls Tryd.prog 61 #[.agg #[.int .i64 2, .bool true, .int .i64 n, .string s, .slice A m c]] w fun e w' => e = .returned (.bool false) ∧ Below w.heap.size w w' := by
  go_enter Tryd.func61, Tryd.ntmps61
  go_wp2_with ((go_at_call 87; refine (bare_2 _ _ _ _ _ _ _).mono ?_; rintro e w1 ⟨rfl, hb1⟩; obtain ⟨hc1, hf1⟩ := bcell hb1; have hz1 : w.heap.size < w1.heap.size := by (have := hb1.size; simp at this; omega)))
  go_ret
  exact ⟨rfl, below_more (below_box hb1) _⟩
set_option maxRecDepth 100000 in
set_option maxHeartbeats 400000 in
theorem right_2_s (n : Int) (s : ByteArray) (A : Option Addr) (m c : Nat) (w : World) (hs : s.toList.isEmpty = false) :
    Calls Tryd.prog 61 #[.agg #[.int .i64 2, .bool false, .int .i64 n, .string s, .slice A m c]] w fun e w' => e = .returned (.bool false) ∧ Below w.heap.size w w' := by
  go_enter Tryd.func61, Tryd.ntmps61
  go_wp2_with ((go_at_call 87; refine (bare_2 _ _ _ _ _ _ _).mono ?_; rintro e w1 ⟨rfl, hb1⟩; obtain ⟨hc1, hf1⟩ := bcell hb1; have hz1 : w.heap.size < w1.heap.size := by (have := hb1.size; simp at this; omega)))
  go_ret
  exact ⟨rfl, below_more (below_box hb1) _⟩
set_option maxRecDepth 100000 in
set_option maxHeartbeats 400000 in
theorem right_2_m (n : Int) (s : ByteArray) (A : Option Addr) (m c : Nat) (w : World) (hs : s.toList.isEmpty = true) (hm : ((0 : Int) != (m : Int)) = true) :
    Calls Tryd.prog 61 #[.agg #[.int .i64 2, .bool false, .int .i64 n, .string s, .slice A m c]] w fun e w' => e = .returned (.bool false) ∧ Below w.heap.size w w' := by
  go_enter Tryd.func61, Tryd.ntmps61
  go_wp2_with ((go_at_call 87; refine (bare_2 _ _ _ _ _ _ _).mono ?_; rintro e w1 ⟨rfl, hb1⟩; obtain ⟨hc1, hf1⟩ := bcell hb1; have hz1 : w.heap.size < w1.heap.size := by (have := hb1.size; simp at this; omega)))
  go_ret
  exact ⟨rfl, below_more (below_box hb1) _⟩
set_option maxRecDepth 100000 in
set_option maxHeartbeats 400000 in
theorem right_2_ok (n : Int) (s : ByteArray) (A : Option Addr) (c : Nat) (w : World) (hs : s.toList.isEmpty = true) :
    Calls Tryd.prog 61 #[.agg #[.int .i64 2, .bool false, .int .i64 n, .string s, .slice A 0 c]] w fun e w' => e = .returned (.bool (true)) ∧ Below w.heap.size w w' := by
  go_enter Tryd.func61, Tryd.ntmps61
  go_wp2_with ((go_at_call 87; refine (bare_2 _ _ _ _ _ _ _).mono ?_; rintro e w1 ⟨rfl, hb1⟩; obtain ⟨hc1, hf1⟩ := bcell hb1; have hz1 : w.heap.size < w1.heap.size := by (have := hb1.size; simp at this; omega)))
  go_ret
  exact ⟨rfl, below_more (below_box hb1) _⟩
set_option maxRecDepth 100000 in
set_option maxHeartbeats 400000 in
theorem right_3_b (n : Int) (s : ByteArray) (A : Option Addr) (m c : Nat) (w : World) :
    Calls Tryd.prog 61 #[.agg #[.int .i64 3, .bool true, .int .i64 n, .string s, .slice A m c]] w fun e w' => e = .returned (.bool false) ∧ Below w.heap.size w w' := by
  go_enter Tryd.func61, Tryd.ntmps61
  go_wp2_with ((go_at_call 87; refine (bare_3 _ _ _ _ _ _ _).mono ?_; rintro e w1 ⟨rfl, hb1⟩; obtain ⟨hc1, hf1⟩ := bcell hb1; have hz1 : w.heap.size < w1.heap.size := by (have := hb1.size; simp at this; omega)))
  go_ret
  exact ⟨rfl, below_more (below_box hb1) _⟩
set_option maxRecDepth 100000 in
set_option maxHeartbeats 400000 in
theorem right_3_n (n : Int) (s : ByteArray) (A : Option Addr) (m c : Nat) (w : World) (hn : ¬ (0 : Int) = n) :
    Calls Tryd.prog 61 #[.agg #[.int .i64 3, .bool false, .int .i64 n, .string s, .slice A m c]] w fun e w' => e = .returned (.bool false) ∧ Below w.heap.size w w' := by
  go_enter Tryd.func61, Tryd.ntmps61
  go_wp2_with ((go_at_call 87; refine (bare_3 _ _ _ _ _ _ _).mono ?_; rintro e w1 ⟨rfl, hb1⟩; obtain ⟨hc1, hf1⟩ := bcell hb1; have hz1 : w.heap.size < w1.heap.size := by (have := hb1.size; simp at this; omega)))
  go_ret
  exact ⟨rfl, below_more (below_box hb1) _⟩
set_option maxRecDepth 100000 in
set_option maxHeartbeats 400000 in
theorem right_3_m (s : ByteArray) (A : Option Addr) (m c : Nat) (w : World) (hm : ((0 : Int) != (m : Int)) = true) :
    Calls Tryd.prog 61 #[.agg #[.int .i64 3, .bool false, .int .i64 0, .string s, .slice A m c]] w fun e w' => e = .returned (.bool false) ∧ Below w.heap.size w w' := by
  go_enter Tryd.func61, Tryd.ntmps61
  go_wp2_with ((go_at_call 87; refine (bare_3 _ _ _ _ _ _ _).mono ?_; rintro e w1 ⟨rfl, hb1⟩; obtain ⟨hc1, hf1⟩ := bcell hb1; have hz1 : w.heap.size < w1.heap.size := by (have := hb1.size; simp at this; omega)))
  go_ret
  exact ⟨rfl, below_more (below_box hb1) _⟩
set_option maxRecDepth 100000 in
set_option maxHeartbeats 400000 in
theorem right_3_ok (s : ByteArray) (A : Option Addr) (c : Nat) (w : World) :
    Calls Tryd.prog 61 #[.agg #[.int .i64 3, .bool false, .int .i64 0, .string s, .slice A 0 c]] w fun e w' => e = .returned (.bool (textB s)) ∧ Below w.heap.size w w' := by
  go_enter Tryd.func61, Tryd.ntmps61
  go_wp2_with (first | (go_at_call 87; refine (bare_3 _ _ _ _ _ _ _).mono ?_; rintro e w1 ⟨rfl, hb1⟩; obtain ⟨hc1, hf1⟩ := bcell hb1; have hz1 : w.heap.size < w1.heap.size := by (have := hb1.size; simp at this; omega)) | (go_at_call 88; refine (text_any _ _).mono ?_; rintro e w2 ⟨rfl, hb2⟩))
  go_ret
  exact ⟨rfl, below_then (below_more (below_box hb1) _) hb2⟩
set_option maxRecDepth 100000 in
set_option maxHeartbeats 400000 in
theorem right_4_b (n : Int) (s : ByteArray) (A : Option Addr) (m c : Nat) (w : World) :
    Calls Tryd.prog 61 #[.agg #[.int .i64 4, .bool true, .int .i64 n, .string s, .slice A m c]] w fun e w' => e = .returned (.bool false) ∧ Below w.heap.size w w' := by
  go_enter Tryd.func61, Tryd.ntmps61
  go_wp2_with ((go_at_call 87; refine (bare_4 _ _ _ _ _ _ _).mono ?_; rintro e w1 ⟨rfl, hb1⟩; obtain ⟨hc1, hf1⟩ := bcell hb1; have hz1 : w.heap.size < w1.heap.size := by (have := hb1.size; simp at this; omega)))
  go_ret
  exact ⟨rfl, below_more (below_box hb1) _⟩
set_option maxRecDepth 100000 in
set_option maxHeartbeats 400000 in
theorem right_4_s (n : Int) (s : ByteArray) (A : Option Addr) (m c : Nat) (w : World) (hs : s.toList.isEmpty = false) :
    Calls Tryd.prog 61 #[.agg #[.int .i64 4, .bool false, .int .i64 n, .string s, .slice A m c]] w fun e w' => e = .returned (.bool false) ∧ Below w.heap.size w w' := by
  go_enter Tryd.func61, Tryd.ntmps61
  go_wp2_with ((go_at_call 87; refine (bare_4 _ _ _ _ _ _ _).mono ?_; rintro e w1 ⟨rfl, hb1⟩; obtain ⟨hc1, hf1⟩ := bcell hb1; have hz1 : w.heap.size < w1.heap.size := by (have := hb1.size; simp at this; omega)))
  go_ret
  exact ⟨rfl, below_more (below_box hb1) _⟩
set_option maxRecDepth 100000 in
set_option maxHeartbeats 400000 in
theorem right_4_m (n : Int) (s : ByteArray) (A : Option Addr) (m c : Nat) (w : World) (hs : s.toList.isEmpty = true) (hm : ((0 : Int) != (m : Int)) = true) :
    Calls Tryd.prog 61 #[.agg #[.int .i64 4, .bool false, .int .i64 n, .string s, .slice A m c]] w fun e w' => e = .returned (.bool false) ∧ Below w.heap.size w w' := by
  go_enter Tryd.func61, Tryd.ntmps61
  go_wp2_with ((go_at_call 87; refine (bare_4 _ _ _ _ _ _ _).mono ?_; rintro e w1 ⟨rfl, hb1⟩; obtain ⟨hc1, hf1⟩ := bcell hb1; have hz1 : w.heap.size < w1.heap.size := by (have := hb1.size; simp at this; omega)))
  go_ret
  exact ⟨rfl, below_more (below_box hb1) _⟩
set_option maxRecDepth 100000 in
set_option maxHeartbeats 400000 in
theorem right_4_ok (n : Int) (s : ByteArray) (A : Option Addr) (c : Nat) (w : World) (hs : s.toList.isEmpty = true) :
    Calls Tryd.prog 61 #[.agg #[.int .i64 4, .bool false, .int .i64 n, .string s, .slice A 0 c]] w fun e w' => e = .returned (.bool (idB n)) ∧ Below w.heap.size w w' := by
  go_enter Tryd.func61, Tryd.ntmps61
  go_wp2_with (first | (go_at_call 87; refine (bare_4 _ _ _ _ _ _ _).mono ?_; rintro e w1 ⟨rfl, hb1⟩; obtain ⟨hc1, hf1⟩ := bcell hb1; have hz1 : w.heap.size < w1.heap.size := by (have := hb1.size; simp at this; omega)) | (go_at_call 89; refine (id_any _ _).mono ?_; rintro e w2 ⟨rfl, rfl⟩))
  go_ret
  exact ⟨rfl, below_more (below_box hb1) _⟩
set_option maxRecDepth 100000 in
set_option maxHeartbeats 400000 in
theorem right_5_b (n : Int) (s : ByteArray) (A : Option Addr) (m c : Nat) (w : World) :
    Calls Tryd.prog 61 #[.agg #[.int .i64 5, .bool true, .int .i64 n, .string s, .slice A m c]] w fun e w' => e = .returned (.bool false) ∧ Below w.heap.size w w' := by
  go_enter Tryd.func61, Tryd.ntmps61
  go_wp2_with ((go_at_call 87; refine (bare_5 _ _ _ _ _ _ _).mono ?_; rintro e w1 ⟨rfl, hb1⟩; obtain ⟨hc1, hf1⟩ := bcell hb1; have hz1 : w.heap.size < w1.heap.size := by (have := hb1.size; simp at this; omega)))
  go_ret
  exact ⟨rfl, below_more (below_box hb1) _⟩
set_option maxRecDepth 100000 in
set_option maxHeartbeats 400000 in
theorem right_5_s (n : Int) (s : ByteArray) (A : Option Addr) (m c : Nat) (w : World) (hs : s.toList.isEmpty = false) :
    Calls Tryd.prog 61 #[.agg #[.int .i64 5, .bool false, .int .i64 n, .string s, .slice A m c]] w fun e w' => e = .returned (.bool false) ∧ Below w.heap.size w w' := by
  go_enter Tryd.func61, Tryd.ntmps61
  go_wp2_with ((go_at_call 87; refine (bare_5 _ _ _ _ _ _ _).mono ?_; rintro e w1 ⟨rfl, hb1⟩; obtain ⟨hc1, hf1⟩ := bcell hb1; have hz1 : w.heap.size < w1.heap.size := by (have := hb1.size; simp at this; omega)))
  go_ret
  exact ⟨rfl, below_more (below_box hb1) _⟩
set_option maxRecDepth 100000 in
set_option maxHeartbeats 400000 in
theorem right_5_m (n : Int) (s : ByteArray) (A : Option Addr) (m c : Nat) (w : World) (hs : s.toList.isEmpty = true) (hm : ((0 : Int) != (m : Int)) = true) :
    Calls Tryd.prog 61 #[.agg #[.int .i64 5, .bool false, .int .i64 n, .string s, .slice A m c]] w fun e w' => e = .returned (.bool false) ∧ Below w.heap.size w w' := by
  go_enter Tryd.func61, Tryd.ntmps61
  go_wp2_with ((go_at_call 87; refine (bare_5 _ _ _ _ _ _ _).mono ?_; rintro e w1 ⟨rfl, hb1⟩; obtain ⟨hc1, hf1⟩ := bcell hb1; have hz1 : w.heap.size < w1.heap.size := by (have := hb1.size; simp at this; omega)))
  go_ret
  exact ⟨rfl, below_more (below_box hb1) _⟩
set_option maxRecDepth 100000 in
set_option maxHeartbeats 400000 in
theorem right_5_ok (n : Int) (s : ByteArray) (A : Option Addr) (c : Nat) (w : World) (hs : s.toList.isEmpty = true) :
    Calls Tryd.prog 61 #[.agg #[.int .i64 5, .bool false, .int .i64 n, .string s, .slice A 0 c]] w fun e w' => e = .returned (.bool (idB n)) ∧ Below w.heap.size w w' := by
  go_enter Tryd.func61, Tryd.ntmps61
  go_wp2_with (first | (go_at_call 87; refine (bare_5 _ _ _ _ _ _ _).mono ?_; rintro e w1 ⟨rfl, hb1⟩; obtain ⟨hc1, hf1⟩ := bcell hb1; have hz1 : w.heap.size < w1.heap.size := by (have := hb1.size; simp at this; omega)) | (go_at_call 89; refine (id_any _ _).mono ?_; rintro e w2 ⟨rfl, rfl⟩))
  go_ret
  exact ⟨rfl, below_more (below_box hb1) _⟩
set_option maxRecDepth 100000 in
set_option maxHeartbeats 400000 in
theorem right_6_b (n : Int) (s : ByteArray) (A : Option Addr) (m c : Nat) (w : World) :
    Calls Tryd.prog 61 #[.agg #[.int .i64 6, .bool true, .int .i64 n, .string s, .slice A m c]] w fun e w' => e = .returned (.bool false) ∧ Below w.heap.size w w' := by
  go_enter Tryd.func61, Tryd.ntmps61
  go_wp2_with ((go_at_call 87; refine (bare_6 _ _ _ _ _ _ _).mono ?_; rintro e w1 ⟨rfl, hb1⟩; obtain ⟨hc1, hf1⟩ := bcell hb1; have hz1 : w.heap.size < w1.heap.size := by (have := hb1.size; simp at this; omega)))
  go_ret
  exact ⟨rfl, below_more (below_box hb1) _⟩
set_option maxRecDepth 100000 in
set_option maxHeartbeats 400000 in
theorem right_6_n (n : Int) (s : ByteArray) (A : Option Addr) (m c : Nat) (w : World) (hn : ¬ (0 : Int) = n) :
    Calls Tryd.prog 61 #[.agg #[.int .i64 6, .bool false, .int .i64 n, .string s, .slice A m c]] w fun e w' => e = .returned (.bool false) ∧ Below w.heap.size w w' := by
  go_enter Tryd.func61, Tryd.ntmps61
  go_wp2_with ((go_at_call 87; refine (bare_6 _ _ _ _ _ _ _).mono ?_; rintro e w1 ⟨rfl, hb1⟩; obtain ⟨hc1, hf1⟩ := bcell hb1; have hz1 : w.heap.size < w1.heap.size := by (have := hb1.size; simp at this; omega)))
  go_ret
  exact ⟨rfl, below_more (below_box hb1) _⟩
set_option maxRecDepth 100000 in
set_option maxHeartbeats 400000 in
theorem right_6_s (s : ByteArray) (A : Option Addr) (m c : Nat) (w : World) (hs : s.toList.isEmpty = false) :
    Calls Tryd.prog 61 #[.agg #[.int .i64 6, .bool false, .int .i64 0, .string s, .slice A m c]] w fun e w' => e = .returned (.bool false) ∧ Below w.heap.size w w' := by
  go_enter Tryd.func61, Tryd.ntmps61
  go_wp2_with ((go_at_call 87; refine (bare_6 _ _ _ _ _ _ _).mono ?_; rintro e w1 ⟨rfl, hb1⟩; obtain ⟨hc1, hf1⟩ := bcell hb1; have hz1 : w.heap.size < w1.heap.size := by (have := hb1.size; simp at this; omega)))
  go_ret
  exact ⟨rfl, below_more (below_box hb1) _⟩
set_option maxRecDepth 100000 in
set_option maxHeartbeats 400000 in
theorem right_x_b (k : Int) (e0 : (k == 0) = false) (e1 : (k == 1) = false) (e2 : (k == 2) = false) (e3 : (k == 3) = false) (e4 : (k == 4) = false) (e5 : (k == 5) = false) (e6 : (k == 6) = false) (n : Int) (s : ByteArray) (A : Option Addr) (m c : Nat) (w : World) :
    Calls Tryd.prog 61 #[.agg #[.int .i64 k, .bool true, .int .i64 n, .string s, .slice A m c]] w fun e w' => e = .returned (.bool false) ∧ Below w.heap.size w w' := by
  go_enter Tryd.func61, Tryd.ntmps61
  go_wp2_with ((go_at_call 87; refine (bare_x k e0 e1 e2 e3 e4 e5 e6 _ _ _ _ _ _ _).mono ?_; rintro e w1 ⟨rfl, hb1⟩; obtain ⟨hc1, hf1⟩ := bcell hb1; have hz1 : w.heap.size < w1.heap.size := by (have := hb1.size; simp at this; omega)))
  go_ret
  exact ⟨rfl, below_more (below_box hb1) _⟩
set_option maxRecDepth 100000 in
set_option maxHeartbeats 400000 in
theorem right_x_n (k : Int) (e0 : (k == 0) = false) (e1 : (k == 1) = false) (e2 : (k == 2) = false) (e3 : (k == 3) = false) (e4 : (k == 4) = false) (e5 : (k == 5) = false) (e6 : (k == 6) = false) (n : Int) (s : ByteArray) (A : Option Addr) (m c : Nat) (w : World) (hn : ¬ (0 : Int) = n) :
    Calls Tryd.prog 61 #[.agg #[.int .i64 k, .bool false, .int .i64 n, .string s, .slice A m c]] w fun e w' => e = .returned (.bool false) ∧ Below w.heap.size w w' := by
  go_enter Tryd.func61, Tryd.ntmps61
  go_wp2_with ((go_at_call 87; refine (bare_x k e0 e1 e2 e3 e4 e5 e6 _ _ _ _ _ _ _).mono ?_; rintro e w1 ⟨rfl, hb1⟩; obtain ⟨hc1, hf1⟩ := bcell hb1; have hz1 : w.heap.size < w1.heap.size := by (have := hb1.size; simp at this; omega)))
  go_ret
  exact ⟨rfl, below_more (below_box hb1) _⟩
set_option maxRecDepth 100000 in
set_option maxHeartbeats 400000 in
theorem right_x_s (k : Int) (e0 : (k == 0) = false) (e1 : (k == 1) = false) (e2 : (k == 2) = false) (e3 : (k == 3) = false) (e4 : (k == 4) = false) (e5 : (k == 5) = false) (e6 : (k == 6) = false) (s : ByteArray) (A : Option Addr) (m c : Nat) (w : World) (hs : s.toList.isEmpty = false) :
    Calls Tryd.prog 61 #[.agg #[.int .i64 k, .bool false, .int .i64 0, .string s, .slice A m c]] w fun e w' => e = .returned (.bool false) ∧ Below w.heap.size w w' := by
  go_enter Tryd.func61, Tryd.ntmps61
  go_wp2_with ((go_at_call 87; refine (bare_x k e0 e1 e2 e3 e4 e5 e6 _ _ _ _ _ _ _).mono ?_; rintro e w1 ⟨rfl, hb1⟩; obtain ⟨hc1, hf1⟩ := bcell hb1; have hz1 : w.heap.size < w1.heap.size := by (have := hb1.size; simp at this; omega)))
  go_ret
  exact ⟨rfl, below_more (below_box hb1) _⟩
set_option maxRecDepth 100000 in
set_option maxHeartbeats 400000 in
theorem right_x_m (k : Int) (e0 : (k == 0) = false) (e1 : (k == 1) = false) (e2 : (k == 2) = false) (e3 : (k == 3) = false) (e4 : (k == 4) = false) (e5 : (k == 5) = false) (e6 : (k == 6) = false) (s : ByteArray) (A : Option Addr) (m c : Nat) (w : World) (hs : s.toList.isEmpty = true) (hm : ((0 : Int) != (m : Int)) = true) :
    Calls Tryd.prog 61 #[.agg #[.int .i64 k, .bool false, .int .i64 0, .string s, .slice A m c]] w fun e w' => e = .returned (.bool false) ∧ Below w.heap.size w w' := by
  go_enter Tryd.func61, Tryd.ntmps61
  go_wp2_with ((go_at_call 87; refine (bare_x k e0 e1 e2 e3 e4 e5 e6 _ _ _ _ _ _ _).mono ?_; rintro e w1 ⟨rfl, hb1⟩; obtain ⟨hc1, hf1⟩ := bcell hb1; have hz1 : w.heap.size < w1.heap.size := by (have := hb1.size; simp at this; omega)))
  go_ret
  exact ⟨rfl, below_more (below_box hb1) _⟩
set_option maxRecDepth 100000 in
set_option maxHeartbeats 400000 in
theorem right_x_ok (k : Int) (e0 : (k == 0) = false) (e1 : (k == 1) = false) (e2 : (k == 2) = false) (e3 : (k == 3) = false) (e4 : (k == 4) = false) (e5 : (k == 5) = false) (e6 : (k == 6) = false) (s : ByteArray) (A : Option Addr) (c : Nat) (w : World) (hs : s.toList.isEmpty = true) :
    Calls Tryd.prog 61 #[.agg #[.int .i64 k, .bool false, .int .i64 0, .string s, .slice A 0 c]] w fun e w' => e = .returned (.bool (false)) ∧ Below w.heap.size w w' := by
  go_enter Tryd.func61, Tryd.ntmps61
  go_wp2_with ((go_at_call 87; refine (bare_x k e0 e1 e2 e3 e4 e5 e6 _ _ _ _ _ _ _).mono ?_; rintro e w1 ⟨rfl, hb1⟩; obtain ⟨hc1, hf1⟩ := bcell hb1; have hz1 : w.heap.size < w1.heap.size := by (have := hb1.size; simp at this; omega)))
  go_ret
  exact ⟨rfl, below_more (below_box hb1) _⟩
end Go.Proofs.YtkchpgjjkckfbaaDoor
