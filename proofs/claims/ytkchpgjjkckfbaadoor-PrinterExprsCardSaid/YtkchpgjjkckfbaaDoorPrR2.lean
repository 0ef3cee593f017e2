/- The document's small functions of printing: Level, asks, kids, sign; name, names, down, lit. -/
import Derived.Test.YtkchpgjjkckfbaaDoorPrR
import Derived.Test.YtkchpgjjkckfbaaDoorPrE4
set_option linter.unusedVariables false
set_option linter.unusedSimpArgs false
namespace Go.Proofs.YtkchpgjjkckfbaaDoor
open Go.RowKit

set_option maxRecDepth 100000 in
theorem lev_1 (w : World) : Calls Tryd.prog 12 #[.int .i64 1] w fun e w' => e = .returned (.int .i64 8) ∧ w = w' := by
  go_enter Tryd.func12, Tryd.ntmps12
  go_wp2
  go_ret
  exact ⟨rfl, rfl⟩
set_option maxRecDepth 100000 in
theorem rkids_1 (w : World) : Calls Tryd.prog 63 #[.int .i64 1] w fun e w' => e = .returned (.int .i64 0) ∧ w = w' := by
  go_enter Tryd.func63, Tryd.ntmps63
  go_wp2
  go_ret
  exact ⟨rfl, rfl⟩
set_option maxRecDepth 100000 in
theorem lev_2 (w : World) : Calls Tryd.prog 12 #[.int .i64 2] w fun e w' => e = .returned (.int .i64 8) ∧ w = w' := by
  go_enter Tryd.func12, Tryd.ntmps12
  go_wp2
  go_ret
  exact ⟨rfl, rfl⟩
set_option maxRecDepth 100000 in
theorem rkids_2 (w : World) : Calls Tryd.prog 63 #[.int .i64 2] w fun e w' => e = .returned (.int .i64 0) ∧ w = w' := by
  go_enter Tryd.func63, Tryd.ntmps63
  go_wp2
  go_ret
  exact ⟨rfl, rfl⟩
set_option maxRecDepth 100000 in
theorem lev_3 (w : World) : Calls Tryd.prog 12 #[.int .i64 3] w fun e w' => e = .returned (.int .i64 8) ∧ w = w' := by
  go_enter Tryd.func12, Tryd.ntmps12
  go_wp2
  go_ret
  exact ⟨rfl, rfl⟩
set_option maxRecDepth 100000 in
theorem rkids_3 (w : World) : Calls Tryd.prog 63 #[.int .i64 3] w fun e w' => e = .returned (.int .i64 0) ∧ w = w' := by
  go_enter Tryd.func63, Tryd.ntmps63
  go_wp2
  go_ret
  exact ⟨rfl, rfl⟩
set_option maxRecDepth 100000 in
theorem lev_4 (w : World) : Calls Tryd.prog 12 #[.int .i64 4] w fun e w' => e = .returned (.int .i64 1) ∧ w = w' := by
  go_enter Tryd.func12, Tryd.ntmps12
  go_wp2
  go_ret
  exact ⟨rfl, rfl⟩
set_option maxRecDepth 100000 in
theorem rkids_4 (w : World) : Calls Tryd.prog 63 #[.int .i64 4] w fun e w' => e = .returned (.int .i64 2) ∧ w = w' := by
  go_enter Tryd.func63, Tryd.ntmps63
  go_wp2
  go_ret
  exact ⟨rfl, rfl⟩
set_option maxRecDepth 100000 in
theorem lev_5 (w : World) : Calls Tryd.prog 12 #[.int .i64 5] w fun e w' => e = .returned (.int .i64 2) ∧ w = w' := by
  go_enter Tryd.func12, Tryd.ntmps12
  go_wp2
  go_ret
  exact ⟨rfl, rfl⟩
set_option maxRecDepth 100000 in
theorem rkids_5 (w : World) : Calls Tryd.prog 63 #[.int .i64 5] w fun e w' => e = .returned (.int .i64 2) ∧ w = w' := by
  go_enter Tryd.func63, Tryd.ntmps63
  go_wp2
  go_ret
  exact ⟨rfl, rfl⟩
set_option maxRecDepth 100000 in
theorem lev_6 (w : World) : Calls Tryd.prog 12 #[.int .i64 6] w fun e w' => e = .returned (.int .i64 4) ∧ w = w' := by
  go_enter Tryd.func12, Tryd.ntmps12
  go_wp2
  go_ret
  exact ⟨rfl, rfl⟩
set_option maxRecDepth 100000 in
theorem rkids_6 (w : World) : Calls Tryd.prog 63 #[.int .i64 6] w fun e w' => e = .returned (.int .i64 2) ∧ w = w' := by
  go_enter Tryd.func63, Tryd.ntmps63
  go_wp2
  go_ret
  exact ⟨rfl, rfl⟩
set_option maxRecDepth 100000 in
theorem lev_7 (w : World) : Calls Tryd.prog 12 #[.int .i64 7] w fun e w' => e = .returned (.int .i64 4) ∧ w = w' := by
  go_enter Tryd.func12, Tryd.ntmps12
  go_wp2
  go_ret
  exact ⟨rfl, rfl⟩
set_option maxRecDepth 100000 in
theorem rkids_7 (w : World) : Calls Tryd.prog 63 #[.int .i64 7] w fun e w' => e = .returned (.int .i64 2) ∧ w = w' := by
  go_enter Tryd.func63, Tryd.ntmps63
  go_wp2
  go_ret
  exact ⟨rfl, rfl⟩
set_option maxRecDepth 100000 in
theorem lev_8 (w : World) : Calls Tryd.prog 12 #[.int .i64 8] w fun e w' => e = .returned (.int .i64 4) ∧ w = w' := by
  go_enter Tryd.func12, Tryd.ntmps12
  go_wp2
  go_ret
  exact ⟨rfl, rfl⟩
set_option maxRecDepth 100000 in
theorem rkids_8 (w : World) : Calls Tryd.prog 63 #[.int .i64 8] w fun e w' => e = .returned (.int .i64 2) ∧ w = w' := by
  go_enter Tryd.func63, Tryd.ntmps63
  go_wp2
  go_ret
  exact ⟨rfl, rfl⟩
set_option maxRecDepth 100000 in
theorem lev_9 (w : World) : Calls Tryd.prog 12 #[.int .i64 9] w fun e w' => e = .returned (.int .i64 4) ∧ w = w' := by
  go_enter Tryd.func12, Tryd.ntmps12
  go_wp2
  go_ret
  exact ⟨rfl, rfl⟩
set_option maxRecDepth 100000 in
theorem rkids_9 (w : World) : Calls Tryd.prog 63 #[.int .i64 9] w fun e w' => e = .returned (.int .i64 2) ∧ w = w' := by
  go_enter Tryd.func63, Tryd.ntmps63
  go_wp2
  go_ret
  exact ⟨rfl, rfl⟩
set_option maxRecDepth 100000 in
theorem lev_10 (w : World) : Calls Tryd.prog 12 #[.int .i64 10] w fun e w' => e = .returned (.int .i64 4) ∧ w = w' := by
  go_enter Tryd.func12, Tryd.ntmps12
  go_wp2
  go_ret
  exact ⟨rfl, rfl⟩
set_option maxRecDepth 100000 in
theorem rkids_10 (w : World) : Calls Tryd.prog 63 #[.int .i64 10] w fun e w' => e = .returned (.int .i64 2) ∧ w = w' := by
  go_enter Tryd.func63, Tryd.ntmps63
  go_wp2
  go_ret
  exact ⟨rfl, rfl⟩
set_option maxRecDepth 100000 in
theorem lev_11 (w : World) : Calls Tryd.prog 12 #[.int .i64 11] w fun e w' => e = .returned (.int .i64 4) ∧ w = w' := by
  go_enter Tryd.func12, Tryd.ntmps12
  go_wp2
  go_ret
  exact ⟨rfl, rfl⟩
set_option maxRecDepth 100000 in
theorem rkids_11 (w : World) : Calls Tryd.prog 63 #[.int .i64 11] w fun e w' => e = .returned (.int .i64 2) ∧ w = w' := by
  go_enter Tryd.func63, Tryd.ntmps63
  go_wp2
  go_ret
  exact ⟨rfl, rfl⟩
set_option maxRecDepth 100000 in
theorem lev_12 (w : World) : Calls Tryd.prog 12 #[.int .i64 12] w fun e w' => e = .returned (.int .i64 5) ∧ w = w' := by
  go_enter Tryd.func12, Tryd.ntmps12
  go_wp2
  go_ret
  exact ⟨rfl, rfl⟩
set_option maxRecDepth 100000 in
theorem rkids_12 (w : World) : Calls Tryd.prog 63 #[.int .i64 12] w fun e w' => e = .returned (.int .i64 2) ∧ w = w' := by
  go_enter Tryd.func63, Tryd.ntmps63
  go_wp2
  go_ret
  exact ⟨rfl, rfl⟩
set_option maxRecDepth 100000 in
theorem lev_13 (w : World) : Calls Tryd.prog 12 #[.int .i64 13] w fun e w' => e = .returned (.int .i64 5) ∧ w = w' := by
  go_enter Tryd.func12, Tryd.ntmps12
  go_wp2
  go_ret
  exact ⟨rfl, rfl⟩
set_option maxRecDepth 100000 in
theorem rkids_13 (w : World) : Calls Tryd.prog 63 #[.int .i64 13] w fun e w' => e = .returned (.int .i64 2) ∧ w = w' := by
  go_enter Tryd.func63, Tryd.ntmps63
  go_wp2
  go_ret
  exact ⟨rfl, rfl⟩
set_option maxRecDepth 100000 in
theorem lev_14 (w : World) : Calls Tryd.prog 12 #[.int .i64 14] w fun e w' => e = .returned (.int .i64 6) ∧ w = w' := by
  go_enter Tryd.func12, Tryd.ntmps12
  go_wp2
  go_ret
  exact ⟨rfl, rfl⟩
set_option maxRecDepth 100000 in
theorem rkids_14 (w : World) : Calls Tryd.prog 63 #[.int .i64 14] w fun e w' => e = .returned (.int .i64 2) ∧ w = w' := by
  go_enter Tryd.func63, Tryd.ntmps63
  go_wp2
  go_ret
  exact ⟨rfl, rfl⟩
set_option maxRecDepth 100000 in
theorem lev_15 (w : World) : Calls Tryd.prog 12 #[.int .i64 15] w fun e w' => e = .returned (.int .i64 6) ∧ w = w' := by
  go_enter Tryd.func12, Tryd.ntmps12
  go_wp2
  go_ret
  exact ⟨rfl, rfl⟩
set_option maxRecDepth 100000 in
theorem rkids_15 (w : World) : Calls Tryd.prog 63 #[.int .i64 15] w fun e w' => e = .returned (.int .i64 2) ∧ w = w' := by
  go_enter Tryd.func63, Tryd.ntmps63
  go_wp2
  go_ret
  exact ⟨rfl, rfl⟩
set_option maxRecDepth 100000 in
theorem lev_16 (w : World) : Calls Tryd.prog 12 #[.int .i64 16] w fun e w' => e = .returned (.int .i64 6) ∧ w = w' := by
  go_enter Tryd.func12, Tryd.ntmps12
  go_wp2
  go_ret
  exact ⟨rfl, rfl⟩
set_option maxRecDepth 100000 in
theorem rkids_16 (w : World) : Calls Tryd.prog 63 #[.int .i64 16] w fun e w' => e = .returned (.int .i64 2) ∧ w = w' := by
  go_enter Tryd.func63, Tryd.ntmps63
  go_wp2
  go_ret
  exact ⟨rfl, rfl⟩
set_option maxRecDepth 100000 in
theorem lev_17 (w : World) : Calls Tryd.prog 12 #[.int .i64 17] w fun e w' => e = .returned (.int .i64 3) ∧ w = w' := by
  go_enter Tryd.func12, Tryd.ntmps12
  go_wp2
  go_ret
  exact ⟨rfl, rfl⟩
set_option maxRecDepth 100000 in
theorem rkids_17 (w : World) : Calls Tryd.prog 63 #[.int .i64 17] w fun e w' => e = .returned (.int .i64 1) ∧ w = w' := by
  go_enter Tryd.func63, Tryd.ntmps63
  go_wp2
  go_ret
  exact ⟨rfl, rfl⟩
set_option maxRecDepth 100000 in
theorem lev_18 (w : World) : Calls Tryd.prog 12 #[.int .i64 18] w fun e w' => e = .returned (.int .i64 7) ∧ w = w' := by
  go_enter Tryd.func12, Tryd.ntmps12
  go_wp2
  go_ret
  exact ⟨rfl, rfl⟩
set_option maxRecDepth 100000 in
theorem rkids_18 (w : World) : Calls Tryd.prog 63 #[.int .i64 18] w fun e w' => e = .returned (.int .i64 1) ∧ w = w' := by
  go_enter Tryd.func63, Tryd.ntmps63
  go_wp2
  go_ret
  exact ⟨rfl, rfl⟩
set_option maxRecDepth 100000 in
theorem lev_19 (w : World) : Calls Tryd.prog 12 #[.int .i64 19] w fun e w' => e = .returned (.int .i64 4) ∧ w = w' := by
  go_enter Tryd.func12, Tryd.ntmps12
  go_wp2
  go_ret
  exact ⟨rfl, rfl⟩
set_option maxRecDepth 100000 in
theorem rkids_19 (w : World) : Calls Tryd.prog 63 #[.int .i64 19] w fun e w' => e = .returned (.int .i64 1) ∧ w = w' := by
  go_enter Tryd.func63, Tryd.ntmps63
  go_wp2
  go_ret
  exact ⟨rfl, rfl⟩
set_option maxRecDepth 100000 in
theorem lev_20 (w : World) : Calls Tryd.prog 12 #[.int .i64 20] w fun e w' => e = .returned (.int .i64 4) ∧ w = w' := by
  go_enter Tryd.func12, Tryd.ntmps12
  go_wp2
  go_ret
  exact ⟨rfl, rfl⟩
set_option maxRecDepth 100000 in
theorem rkids_20 (w : World) : Calls Tryd.prog 63 #[.int .i64 20] w fun e w' => e = .returned (.int .i64 1) ∧ w = w' := by
  go_enter Tryd.func63, Tryd.ntmps63
  go_wp2
  go_ret
  exact ⟨rfl, rfl⟩
set_option maxRecDepth 100000 in
theorem lev_21 (w : World) : Calls Tryd.prog 12 #[.int .i64 21] w fun e w' => e = .returned (.int .i64 8) ∧ w = w' := by
  go_enter Tryd.func12, Tryd.ntmps12
  go_wp2
  go_ret
  exact ⟨rfl, rfl⟩
set_option maxRecDepth 100000 in
theorem rkids_21 (w : World) : Calls Tryd.prog 63 #[.int .i64 21] w fun e w' => e = .returned (.int .i64 1) ∧ w = w' := by
  go_enter Tryd.func63, Tryd.ntmps63
  go_wp2
  go_ret
  exact ⟨rfl, rfl⟩
set_option maxRecDepth 100000 in
theorem lev_22 (w : World) : Calls Tryd.prog 12 #[.int .i64 22] w fun e w' => e = .returned (.int .i64 8) ∧ w = w' := by
  go_enter Tryd.func12, Tryd.ntmps12
  go_wp2
  go_ret
  exact ⟨rfl, rfl⟩
set_option maxRecDepth 100000 in
theorem rkids_22 (w : World) : Calls Tryd.prog 63 #[.int .i64 22] w fun e w' => e = .returned (.int .i64 1) ∧ w = w' := by
  go_enter Tryd.func63, Tryd.ntmps63
  go_wp2
  go_ret
  exact ⟨rfl, rfl⟩
set_option maxRecDepth 100000 in
theorem lev_23 (w : World) : Calls Tryd.prog 12 #[.int .i64 23] w fun e w' => e = .returned (.int .i64 8) ∧ w = w' := by
  go_enter Tryd.func12, Tryd.ntmps12
  go_wp2
  go_ret
  exact ⟨rfl, rfl⟩
set_option maxRecDepth 100000 in
theorem rkids_23 (w : World) : Calls Tryd.prog 63 #[.int .i64 23] w fun e w' => e = .returned (.int .i64 1) ∧ w = w' := by
  go_enter Tryd.func63, Tryd.ntmps63
  go_wp2
  go_ret
  exact ⟨rfl, rfl⟩
set_option maxRecDepth 100000 in
theorem lev_24 (w : World) : Calls Tryd.prog 12 #[.int .i64 24] w fun e w' => e = .returned (.int .i64 8) ∧ w = w' := by
  go_enter Tryd.func12, Tryd.ntmps12
  go_wp2
  go_ret
  exact ⟨rfl, rfl⟩
set_option maxRecDepth 100000 in
theorem rkids_24 (w : World) : Calls Tryd.prog 63 #[.int .i64 24] w fun e w' => e = .returned (.int .i64 1) ∧ w = w' := by
  go_enter Tryd.func63, Tryd.ntmps63
  go_wp2
  go_ret
  exact ⟨rfl, rfl⟩
set_option maxRecDepth 100000 in
theorem lev_25 (w : World) : Calls Tryd.prog 12 #[.int .i64 25] w fun e w' => e = .returned (.int .i64 8) ∧ w = w' := by
  go_enter Tryd.func12, Tryd.ntmps12
  go_wp2
  go_ret
  exact ⟨rfl, rfl⟩
set_option maxRecDepth 100000 in
theorem rkids_25 (w : World) : Calls Tryd.prog 63 #[.int .i64 25] w fun e w' => e = .returned (.int .i64 1) ∧ w = w' := by
  go_enter Tryd.func63, Tryd.ntmps63
  go_wp2
  go_ret
  exact ⟨rfl, rfl⟩
set_option maxRecDepth 100000 in
theorem lev_26 (w : World) : Calls Tryd.prog 12 #[.int .i64 26] w fun e w' => e = .returned (.int .i64 8) ∧ w = w' := by
  go_enter Tryd.func12, Tryd.ntmps12
  go_wp2
  go_ret
  exact ⟨rfl, rfl⟩
set_option maxRecDepth 100000 in
theorem rkids_26 (w : World) : Calls Tryd.prog 63 #[.int .i64 26] w fun e w' => e = .returned (.int .i64 0) ∧ w = w' := by
  go_enter Tryd.func63, Tryd.ntmps63
  go_wp2
  go_ret
  exact ⟨rfl, rfl⟩
set_option maxRecDepth 100000 in
theorem asks_4_0 (w : World) : Calls Tryd.prog 66 #[.int .i64 4, .int .i64 0] w fun e w' => e = .returned (.int .i64 1) ∧ w = w' := by
  go_enter Tryd.func66, Tryd.ntmps66
  go_wp2_with (go_at_call 12; refine (lev_4 _).mono ?_; rintro e w2 ⟨rfl, rfl⟩)
  go_ret
  exact ⟨rfl, rfl⟩
set_option maxRecDepth 100000 in
theorem asks_4_1 (w : World) : Calls Tryd.prog 66 #[.int .i64 4, .int .i64 1] w fun e w' => e = .returned (.int .i64 2) ∧ w = w' := by
  go_enter Tryd.func66, Tryd.ntmps66
  go_wp2_with (go_at_call 12; refine (lev_4 _).mono ?_; rintro e w2 ⟨rfl, rfl⟩)
  go_ret
  exact ⟨rfl, rfl⟩
set_option maxRecDepth 100000 in
theorem asks_5_0 (w : World) : Calls Tryd.prog 66 #[.int .i64 5, .int .i64 0] w fun e w' => e = .returned (.int .i64 2) ∧ w = w' := by
  go_enter Tryd.func66, Tryd.ntmps66
  go_wp2_with (go_at_call 12; refine (lev_5 _).mono ?_; rintro e w2 ⟨rfl, rfl⟩)
  go_ret
  exact ⟨rfl, rfl⟩
set_option maxRecDepth 100000 in
theorem asks_5_1 (w : World) : Calls Tryd.prog 66 #[.int .i64 5, .int .i64 1] w fun e w' => e = .returned (.int .i64 3) ∧ w = w' := by
  go_enter Tryd.func66, Tryd.ntmps66
  go_wp2_with (go_at_call 12; refine (lev_5 _).mono ?_; rintro e w2 ⟨rfl, rfl⟩)
  go_ret
  exact ⟨rfl, rfl⟩
set_option maxRecDepth 100000 in
theorem asks_6_0 (w : World) : Calls Tryd.prog 66 #[.int .i64 6, .int .i64 0] w fun e w' => e = .returned (.int .i64 5) ∧ w = w' := by
  go_enter Tryd.func66, Tryd.ntmps66
  go_wp2_with (go_at_call 12; refine (lev_6 _).mono ?_; rintro e w2 ⟨rfl, rfl⟩)
  go_ret
  exact ⟨rfl, rfl⟩
set_option maxRecDepth 100000 in
theorem asks_6_1 (w : World) : Calls Tryd.prog 66 #[.int .i64 6, .int .i64 1] w fun e w' => e = .returned (.int .i64 5) ∧ w = w' := by
  go_enter Tryd.func66, Tryd.ntmps66
  go_wp2_with (go_at_call 12; refine (lev_6 _).mono ?_; rintro e w2 ⟨rfl, rfl⟩)
  go_ret
  exact ⟨rfl, rfl⟩
set_option maxRecDepth 100000 in
theorem asks_7_0 (w : World) : Calls Tryd.prog 66 #[.int .i64 7, .int .i64 0] w fun e w' => e = .returned (.int .i64 5) ∧ w = w' := by
  go_enter Tryd.func66, Tryd.ntmps66
  go_wp2_with (go_at_call 12; refine (lev_7 _).mono ?_; rintro e w2 ⟨rfl, rfl⟩)
  go_ret
  exact ⟨rfl, rfl⟩
set_option maxRecDepth 100000 in
theorem asks_7_1 (w : World) : Calls Tryd.prog 66 #[.int .i64 7, .int .i64 1] w fun e w' => e = .returned (.int .i64 5) ∧ w = w' := by
  go_enter Tryd.func66, Tryd.ntmps66
  go_wp2_with (go_at_call 12; refine (lev_7 _).mono ?_; rintro e w2 ⟨rfl, rfl⟩)
  go_ret
  exact ⟨rfl, rfl⟩
set_option maxRecDepth 100000 in
theorem asks_8_0 (w : World) : Calls Tryd.prog 66 #[.int .i64 8, .int .i64 0] w fun e w' => e = .returned (.int .i64 5) ∧ w = w' := by
  go_enter Tryd.func66, Tryd.ntmps66
  go_wp2_with (go_at_call 12; refine (lev_8 _).mono ?_; rintro e w2 ⟨rfl, rfl⟩)
  go_ret
  exact ⟨rfl, rfl⟩
set_option maxRecDepth 100000 in
theorem asks_8_1 (w : World) : Calls Tryd.prog 66 #[.int .i64 8, .int .i64 1] w fun e w' => e = .returned (.int .i64 5) ∧ w = w' := by
  go_enter Tryd.func66, Tryd.ntmps66
  go_wp2_with (go_at_call 12; refine (lev_8 _).mono ?_; rintro e w2 ⟨rfl, rfl⟩)
  go_ret
  exact ⟨rfl, rfl⟩
set_option maxRecDepth 100000 in
theorem asks_9_0 (w : World) : Calls Tryd.prog 66 #[.int .i64 9, .int .i64 0] w fun e w' => e = .returned (.int .i64 5) ∧ w = w' := by
  go_enter Tryd.func66, Tryd.ntmps66
  go_wp2_with (go_at_call 12; refine (lev_9 _).mono ?_; rintro e w2 ⟨rfl, rfl⟩)
  go_ret
  exact ⟨rfl, rfl⟩
set_option maxRecDepth 100000 in
theorem asks_9_1 (w : World) : Calls Tryd.prog 66 #[.int .i64 9, .int .i64 1] w fun e w' => e = .returned (.int .i64 5) ∧ w = w' := by
  go_enter Tryd.func66, Tryd.ntmps66
  go_wp2_with (go_at_call 12; refine (lev_9 _).mono ?_; rintro e w2 ⟨rfl, rfl⟩)
  go_ret
  exact ⟨rfl, rfl⟩
set_option maxRecDepth 100000 in
theorem asks_10_0 (w : World) : Calls Tryd.prog 66 #[.int .i64 10, .int .i64 0] w fun e w' => e = .returned (.int .i64 5) ∧ w = w' := by
  go_enter Tryd.func66, Tryd.ntmps66
  go_wp2_with (go_at_call 12; refine (lev_10 _).mono ?_; rintro e w2 ⟨rfl, rfl⟩)
  go_ret
  exact ⟨rfl, rfl⟩
set_option maxRecDepth 100000 in
theorem asks_10_1 (w : World) : Calls Tryd.prog 66 #[.int .i64 10, .int .i64 1] w fun e w' => e = .returned (.int .i64 5) ∧ w = w' := by
  go_enter Tryd.func66, Tryd.ntmps66
  go_wp2_with (go_at_call 12; refine (lev_10 _).mono ?_; rintro e w2 ⟨rfl, rfl⟩)
  go_ret
  exact ⟨rfl, rfl⟩
set_option maxRecDepth 100000 in
theorem asks_11_0 (w : World) : Calls Tryd.prog 66 #[.int .i64 11, .int .i64 0] w fun e w' => e = .returned (.int .i64 5) ∧ w = w' := by
  go_enter Tryd.func66, Tryd.ntmps66
  go_wp2_with (go_at_call 12; refine (lev_11 _).mono ?_; rintro e w2 ⟨rfl, rfl⟩)
  go_ret
  exact ⟨rfl, rfl⟩
set_option maxRecDepth 100000 in
theorem asks_11_1 (w : World) : Calls Tryd.prog 66 #[.int .i64 11, .int .i64 1] w fun e w' => e = .returned (.int .i64 5) ∧ w = w' := by
  go_enter Tryd.func66, Tryd.ntmps66
  go_wp2_with (go_at_call 12; refine (lev_11 _).mono ?_; rintro e w2 ⟨rfl, rfl⟩)
  go_ret
  exact ⟨rfl, rfl⟩
set_option maxRecDepth 100000 in
theorem asks_12_0 (w : World) : Calls Tryd.prog 66 #[.int .i64 12, .int .i64 0] w fun e w' => e = .returned (.int .i64 5) ∧ w = w' := by
  go_enter Tryd.func66, Tryd.ntmps66
  go_wp2_with (go_at_call 12; refine (lev_12 _).mono ?_; rintro e w2 ⟨rfl, rfl⟩)
  go_ret
  exact ⟨rfl, rfl⟩
set_option maxRecDepth 100000 in
theorem asks_12_1 (w : World) : Calls Tryd.prog 66 #[.int .i64 12, .int .i64 1] w fun e w' => e = .returned (.int .i64 6) ∧ w = w' := by
  go_enter Tryd.func66, Tryd.ntmps66
  go_wp2_with (go_at_call 12; refine (lev_12 _).mono ?_; rintro e w2 ⟨rfl, rfl⟩)
  go_ret
  exact ⟨rfl, rfl⟩
set_option maxRecDepth 100000 in
theorem asks_13_0 (w : World) : Calls Tryd.prog 66 #[.int .i64 13, .int .i64 0] w fun e w' => e = .returned (.int .i64 5) ∧ w = w' := by
  go_enter Tryd.func66, Tryd.ntmps66
  go_wp2_with (go_at_call 12; refine (lev_13 _).mono ?_; rintro e w2 ⟨rfl, rfl⟩)
  go_ret
  exact ⟨rfl, rfl⟩
set_option maxRecDepth 100000 in
theorem asks_13_1 (w : World) : Calls Tryd.prog 66 #[.int .i64 13, .int .i64 1] w fun e w' => e = .returned (.int .i64 6) ∧ w = w' := by
  go_enter Tryd.func66, Tryd.ntmps66
  go_wp2_with (go_at_call 12; refine (lev_13 _).mono ?_; rintro e w2 ⟨rfl, rfl⟩)
  go_ret
  exact ⟨rfl, rfl⟩
set_option maxRecDepth 100000 in
theorem asks_14_0 (w : World) : Calls Tryd.prog 66 #[.int .i64 14, .int .i64 0] w fun e w' => e = .returned (.int .i64 6) ∧ w = w' := by
  go_enter Tryd.func66, Tryd.ntmps66
  go_wp2_with (go_at_call 12; refine (lev_14 _).mono ?_; rintro e w2 ⟨rfl, rfl⟩)
  go_ret
  exact ⟨rfl, rfl⟩
set_option maxRecDepth 100000 in
theorem asks_14_1 (w : World) : Calls Tryd.prog 66 #[.int .i64 14, .int .i64 1] w fun e w' => e = .returned (.int .i64 7) ∧ w = w' := by
  go_enter Tryd.func66, Tryd.ntmps66
  go_wp2_with (go_at_call 12; refine (lev_14 _).mono ?_; rintro e w2 ⟨rfl, rfl⟩)
  go_ret
  exact ⟨rfl, rfl⟩
set_option maxRecDepth 100000 in
theorem asks_15_0 (w : World) : Calls Tryd.prog 66 #[.int .i64 15, .int .i64 0] w fun e w' => e = .returned (.int .i64 6) ∧ w = w' := by
  go_enter Tryd.func66, Tryd.ntmps66
  go_wp2_with (go_at_call 12; refine (lev_15 _).mono ?_; rintro e w2 ⟨rfl, rfl⟩)
  go_ret
  exact ⟨rfl, rfl⟩
set_option maxRecDepth 100000 in
theorem asks_15_1 (w : World) : Calls Tryd.prog 66 #[.int .i64 15, .int .i64 1] w fun e w' => e = .returned (.int .i64 7) ∧ w = w' := by
  go_enter Tryd.func66, Tryd.ntmps66
  go_wp2_with (go_at_call 12; refine (lev_15 _).mono ?_; rintro e w2 ⟨rfl, rfl⟩)
  go_ret
  exact ⟨rfl, rfl⟩
set_option maxRecDepth 100000 in
theorem asks_16_0 (w : World) : Calls Tryd.prog 66 #[.int .i64 16, .int .i64 0] w fun e w' => e = .returned (.int .i64 6) ∧ w = w' := by
  go_enter Tryd.func66, Tryd.ntmps66
  go_wp2_with (go_at_call 12; refine (lev_16 _).mono ?_; rintro e w2 ⟨rfl, rfl⟩)
  go_ret
  exact ⟨rfl, rfl⟩
set_option maxRecDepth 100000 in
theorem asks_16_1 (w : World) : Calls Tryd.prog 66 #[.int .i64 16, .int .i64 1] w fun e w' => e = .returned (.int .i64 7) ∧ w = w' := by
  go_enter Tryd.func66, Tryd.ntmps66
  go_wp2_with (go_at_call 12; refine (lev_16 _).mono ?_; rintro e w2 ⟨rfl, rfl⟩)
  go_ret
  exact ⟨rfl, rfl⟩
set_option maxRecDepth 100000 in
theorem asks_17_0 (w : World) : Calls Tryd.prog 66 #[.int .i64 17, .int .i64 0] w fun e w' => e = .returned (.int .i64 3) ∧ w = w' := by
  go_enter Tryd.func66, Tryd.ntmps66
  go_wp2_with (go_at_call 12; refine (lev_17 _).mono ?_; rintro e w2 ⟨rfl, rfl⟩)
  go_ret
  exact ⟨rfl, rfl⟩
set_option maxRecDepth 100000 in
theorem asks_18_0 (w : World) : Calls Tryd.prog 66 #[.int .i64 18, .int .i64 0] w fun e w' => e = .returned (.int .i64 7) ∧ w = w' := by
  go_enter Tryd.func66, Tryd.ntmps66
  go_wp2_with (go_at_call 12; refine (lev_18 _).mono ?_; rintro e w2 ⟨rfl, rfl⟩)
  go_ret
  exact ⟨rfl, rfl⟩
set_option maxRecDepth 100000 in
theorem asks_19_0 (w : World) : Calls Tryd.prog 66 #[.int .i64 19, .int .i64 0] w fun e w' => e = .returned (.int .i64 5) ∧ w = w' := by
  go_enter Tryd.func66, Tryd.ntmps66
  go_wp2_with (go_at_call 12; refine (lev_19 _).mono ?_; rintro e w2 ⟨rfl, rfl⟩)
  go_ret
  exact ⟨rfl, rfl⟩
set_option maxRecDepth 100000 in
theorem asks_20_0 (w : World) : Calls Tryd.prog 66 #[.int .i64 20, .int .i64 0] w fun e w' => e = .returned (.int .i64 5) ∧ w = w' := by
  go_enter Tryd.func66, Tryd.ntmps66
  go_wp2_with (go_at_call 12; refine (lev_20 _).mono ?_; rintro e w2 ⟨rfl, rfl⟩)
  go_ret
  exact ⟨rfl, rfl⟩
set_option maxRecDepth 100000 in
theorem lev_none (k : Int) (e1 : (k == 1) = false) (e2 : (k == 2) = false) (e3 : (k == 3) = false) (e4 : (k == 4) = false) (e5 : (k == 5) = false) (e6 : (k == 6) = false) (e7 : (k == 7) = false) (e8 : (k == 8) = false) (e9 : (k == 9) = false) (e10 : (k == 10) = false) (e11 : (k == 11) = false) (e12 : (k == 12) = false) (e13 : (k == 13) = false) (e14 : (k == 14) = false) (e15 : (k == 15) = false) (e16 : (k == 16) = false) (e17 : (k == 17) = false) (e18 : (k == 18) = false) (e19 : (k == 19) = false) (e20 : (k == 20) = false) (e21 : (k == 21) = false) (e22 : (k == 22) = false) (e23 : (k == 23) = false) (e24 : (k == 24) = false) (e25 : (k == 25) = false) (e26 : (k == 26) = false) (w : World) : Calls Tryd.prog 12 #[.int .i64 k] w fun e w' => e = .returned (.int .i64 8) ∧ w = w' := by
  have hlo : k < 1 ∨ 26 < k := by
    have : ∀ i : Int, (k == i) = false → ¬ k = i := fun i h => beq_eq_false_iff_ne.1 h
    have n1 := this _ e1
    have n2 := this _ e2
    have n3 := this _ e3
    have n4 := this _ e4
    have n5 := this _ e5
    have n6 := this _ e6
    have n7 := this _ e7
    have n8 := this _ e8
    have n9 := this _ e9
    have n10 := this _ e10
    have n11 := this _ e11
    have n12 := this _ e12
    have n13 := this _ e13
    have n14 := this _ e14
    have n15 := this _ e15
    have n16 := this _ e16
    have n17 := this _ e17
    have n18 := this _ e18
    have n19 := this _ e19
    have n20 := this _ e20
    have n21 := this _ e21
    have n22 := this _ e22
    have n23 := this _ e23
    have n24 := this _ e24
    have n25 := this _ e25
    have n26 := this _ e26
    omega
  rcases hlo with hlo | hlo
  · have a4 : ¬ 4 ≤ k := by omega
    have a6 : ¬ 6 ≤ k := by omega
    have a12 : ¬ 12 ≤ k := by omega
    have a17 : ¬ 17 ≤ k := by omega
    have b11 : k ≤ 11 := by omega
    have b16 : k ≤ 16 := by omega
    have b25 : k ≤ 25 := by omega
    clear hlo
    go_enter Tryd.func12, Tryd.ntmps12
    go_wp2
    go_ret
    exact ⟨rfl, rfl⟩
  · have a4 : 4 ≤ k := by omega
    have a6 : 6 ≤ k := by omega
    have a12 : 12 ≤ k := by omega
    have a17 : 17 ≤ k := by omega
    have b11 : ¬ k ≤ 11 := by omega
    have b16 : ¬ k ≤ 16 := by omega
    have b25 : ¬ k ≤ 25 := by omega
    clear hlo
    go_enter Tryd.func12, Tryd.ntmps12
    go_wp2
    go_ret
    exact ⟨rfl, rfl⟩
/-- The level of a Kid, as the document has it. -/
def levR (k : Int) : Int := if shpD k = none then 8 else lvlD k
theorem lev_any (k : Int) (w : World) : Calls Tryd.prog 12 #[.int .i64 k] w fun e w' => e = .returned (.int .i64 (levR k)) ∧ w = w' := by
  by_cases h1 : k = 1
  · subst h1
    exact lev_1 w
  have e1 : (k == 1) = false := beq_eq_false_iff_ne.2 h1
  by_cases h2 : k = 2
  · subst h2
    exact lev_2 w
  have e2 : (k == 2) = false := beq_eq_false_iff_ne.2 h2
  by_cases h3 : k = 3
  · subst h3
    exact lev_3 w
  have e3 : (k == 3) = false := beq_eq_false_iff_ne.2 h3
  by_cases h4 : k = 4
  · subst h4
    exact lev_4 w
  have e4 : (k == 4) = false := beq_eq_false_iff_ne.2 h4
  by_cases h5 : k = 5
  · subst h5
    exact lev_5 w
  have e5 : (k == 5) = false := beq_eq_false_iff_ne.2 h5
  by_cases h6 : k = 6
  · subst h6
    exact lev_6 w
  have e6 : (k == 6) = false := beq_eq_false_iff_ne.2 h6
  by_cases h7 : k = 7
  · subst h7
    exact lev_7 w
  have e7 : (k == 7) = false := beq_eq_false_iff_ne.2 h7
  by_cases h8 : k = 8
  · subst h8
    exact lev_8 w
  have e8 : (k == 8) = false := beq_eq_false_iff_ne.2 h8
  by_cases h9 : k = 9
  · subst h9
    exact lev_9 w
  have e9 : (k == 9) = false := beq_eq_false_iff_ne.2 h9
  by_cases h10 : k = 10
  · subst h10
    exact lev_10 w
  have e10 : (k == 10) = false := beq_eq_false_iff_ne.2 h10
  by_cases h11 : k = 11
  · subst h11
    exact lev_11 w
  have e11 : (k == 11) = false := beq_eq_false_iff_ne.2 h11
  by_cases h12 : k = 12
  · subst h12
    exact lev_12 w
  have e12 : (k == 12) = false := beq_eq_false_iff_ne.2 h12
  by_cases h13 : k = 13
  · subst h13
    exact lev_13 w
  have e13 : (k == 13) = false := beq_eq_false_iff_ne.2 h13
  by_cases h14 : k = 14
  · subst h14
    exact lev_14 w
  have e14 : (k == 14) = false := beq_eq_false_iff_ne.2 h14
  by_cases h15 : k = 15
  · subst h15
    exact lev_15 w
  have e15 : (k == 15) = false := beq_eq_false_iff_ne.2 h15
  by_cases h16 : k = 16
  · subst h16
    exact lev_16 w
  have e16 : (k == 16) = false := beq_eq_false_iff_ne.2 h16
  by_cases h17 : k = 17
  · subst h17
    exact lev_17 w
  have e17 : (k == 17) = false := beq_eq_false_iff_ne.2 h17
  by_cases h18 : k = 18
  · subst h18
    exact lev_18 w
  have e18 : (k == 18) = false := beq_eq_false_iff_ne.2 h18
  by_cases h19 : k = 19
  · subst h19
    exact lev_19 w
  have e19 : (k == 19) = false := beq_eq_false_iff_ne.2 h19
  by_cases h20 : k = 20
  · subst h20
    exact lev_20 w
  have e20 : (k == 20) = false := beq_eq_false_iff_ne.2 h20
  by_cases h21 : k = 21
  · subst h21
    exact lev_21 w
  have e21 : (k == 21) = false := beq_eq_false_iff_ne.2 h21
  by_cases h22 : k = 22
  · subst h22
    exact lev_22 w
  have e22 : (k == 22) = false := beq_eq_false_iff_ne.2 h22
  by_cases h23 : k = 23
  · subst h23
    exact lev_23 w
  have e23 : (k == 23) = false := beq_eq_false_iff_ne.2 h23
  by_cases h24 : k = 24
  · subst h24
    exact lev_24 w
  have e24 : (k == 24) = false := beq_eq_false_iff_ne.2 h24
  by_cases h25 : k = 25
  · subst h25
    exact lev_25 w
  have e25 : (k == 25) = false := beq_eq_false_iff_ne.2 h25
  by_cases h26 : k = 26
  · subst h26
    exact lev_26 w
  have e26 : (k == 26) = false := beq_eq_false_iff_ne.2 h26
  have hs : shpD k = none := by
    unfold shpD
    rw [if_neg h1, if_neg h2, if_neg h3, if_neg h4, if_neg h5, if_neg h6, if_neg h7, if_neg h8, if_neg h9, if_neg h10, if_neg h11, if_neg h12, if_neg h13, if_neg h14, if_neg h15, if_neg h16, if_neg h17, if_neg h18, if_neg h19, if_neg h20, if_neg h21, if_neg h22, if_neg h23, if_neg h24, if_neg h25, if_neg h26]
  rw [levR, if_pos hs]
  exact lev_none k e1 e2 e3 e4 e5 e6 e7 e8 e9 e10 e11 e12 e13 e14 e15 e16 e17 e18 e19 e20 e21 e22 e23 e24 e25 e26 w
set_option maxRecDepth 100000 in
theorem sign_4 (w : World) : Calls Tryd.prog 44 #[.int .i64 4] w fun e w' => e = .returned (.string ⟨([79, 82] : List UInt8).toArray⟩) ∧ Below w.heap.size w w' := by
  go_enter Tryd.func44, Tryd.ntmps44
  go_wp2
  go_ret
  exact ⟨rfl, by repeat (first | exact Below.refl _ _ | assumption | apply below_more)⟩
set_option maxRecDepth 100000 in
theorem sign_5 (w : World) : Calls Tryd.prog 44 #[.int .i64 5] w fun e w' => e = .returned (.string ⟨([65, 78, 68] : List UInt8).toArray⟩) ∧ Below w.heap.size w w' := by
  go_enter Tryd.func44, Tryd.ntmps44
  go_wp2
  go_ret
  exact ⟨rfl, by repeat (first | exact Below.refl _ _ | assumption | apply below_more)⟩
set_option maxRecDepth 100000 in
theorem sign_6 (w : World) : Calls Tryd.prog 44 #[.int .i64 6] w fun e w' => e = .returned (.string ⟨([61] : List UInt8).toArray⟩) ∧ Below w.heap.size w w' := by
  go_enter Tryd.func44, Tryd.ntmps44
  go_wp2
  go_ret
  exact ⟨rfl, by repeat (first | exact Below.refl _ _ | assumption | apply below_more)⟩
set_option maxRecDepth 100000 in
theorem sign_7 (w : World) : Calls Tryd.prog 44 #[.int .i64 7] w fun e w' => e = .returned (.string ⟨([60, 62] : List UInt8).toArray⟩) ∧ Below w.heap.size w w' := by
  go_enter Tryd.func44, Tryd.ntmps44
  go_wp2
  go_ret
  exact ⟨rfl, by repeat (first | exact Below.refl _ _ | assumption | apply below_more)⟩
set_option maxRecDepth 100000 in
theorem sign_8 (w : World) : Calls Tryd.prog 44 #[.int .i64 8] w fun e w' => e = .returned (.string ⟨([60] : List UInt8).toArray⟩) ∧ Below w.heap.size w w' := by
  go_enter Tryd.func44, Tryd.ntmps44
  go_wp2
  go_ret
  exact ⟨rfl, by repeat (first | exact Below.refl _ _ | assumption | apply below_more)⟩
set_option maxRecDepth 100000 in
theorem sign_9 (w : World) : Calls Tryd.prog 44 #[.int .i64 9] w fun e w' => e = .returned (.string ⟨([60, 61] : List UInt8).toArray⟩) ∧ Below w.heap.size w w' := by
  go_enter Tryd.func44, Tryd.ntmps44
  go_wp2
  go_ret
  exact ⟨rfl, by repeat (first | exact Below.refl _ _ | assumption | apply below_more)⟩
set_option maxRecDepth 100000 in
theorem sign_10 (w : World) : Calls Tryd.prog 44 #[.int .i64 10] w fun e w' => e = .returned (.string ⟨([62] : List UInt8).toArray⟩) ∧ Below w.heap.size w w' := by
  go_enter Tryd.func44, Tryd.ntmps44
  go_wp2
  go_ret
  exact ⟨rfl, by repeat (first | exact Below.refl _ _ | assumption | apply below_more)⟩
set_option maxRecDepth 100000 in
theorem sign_11 (w : World) : Calls Tryd.prog 44 #[.int .i64 11] w fun e w' => e = .returned (.string ⟨([62, 61] : List UInt8).toArray⟩) ∧ Below w.heap.size w w' := by
  go_enter Tryd.func44, Tryd.ntmps44
  go_wp2
  go_ret
  exact ⟨rfl, by repeat (first | exact Below.refl _ _ | assumption | apply below_more)⟩
set_option maxRecDepth 100000 in
theorem sign_12 (w : World) : Calls Tryd.prog 44 #[.int .i64 12] w fun e w' => e = .returned (.string ⟨([43] : List UInt8).toArray⟩) ∧ Below w.heap.size w w' := by
  go_enter Tryd.func44, Tryd.ntmps44
  go_wp2
  go_ret
  exact ⟨rfl, by repeat (first | exact Below.refl _ _ | assumption | apply below_more)⟩
set_option maxRecDepth 100000 in
theorem sign_13 (w : World) : Calls Tryd.prog 44 #[.int .i64 13] w fun e w' => e = .returned (.string ⟨([45] : List UInt8).toArray⟩) ∧ Below w.heap.size w w' := by
  go_enter Tryd.func44, Tryd.ntmps44
  go_wp2
  go_ret
  exact ⟨rfl, by repeat (first | exact Below.refl _ _ | assumption | apply below_more)⟩
set_option maxRecDepth 100000 in
theorem sign_14 (w : World) : Calls Tryd.prog 44 #[.int .i64 14] w fun e w' => e = .returned (.string ⟨([42] : List UInt8).toArray⟩) ∧ Below w.heap.size w w' := by
  go_enter Tryd.func44, Tryd.ntmps44
  go_wp2
  go_ret
  exact ⟨rfl, by repeat (first | exact Below.refl _ _ | assumption | apply below_more)⟩
set_option maxRecDepth 100000 in
theorem sign_15 (w : World) : Calls Tryd.prog 44 #[.int .i64 15] w fun e w' => e = .returned (.string ⟨([47] : List UInt8).toArray⟩) ∧ Below w.heap.size w w' := by
  go_enter Tryd.func44, Tryd.ntmps44
  go_wp2
  go_ret
  exact ⟨rfl, by repeat (first | exact Below.refl _ _ | assumption | apply below_more)⟩
set_option maxRecDepth 100000 in
theorem sign_16 (w : World) : Calls Tryd.prog 44 #[.int .i64 16] w fun e w' => e = .returned (.string ⟨([37] : List UInt8).toArray⟩) ∧ Below w.heap.size w w' := by
  go_enter Tryd.func44, Tryd.ntmps44
  go_wp2
  go_ret
  exact ⟨rfl, by repeat (first | exact Below.refl _ _ | assumption | apply below_more)⟩
set_option maxRecDepth 100000 in
theorem rnamed_any (s : ByteArray) (w : World) (hs : s.size ≤ 9223372036854775807) (hT : Lib.Utf8Tabs 1 2 w) :
    Calls Tryd.prog 53 #[.string s] w fun e w' => e = .returned (.bool (namedB s)) ∧ Below w.heap.size w w' := by
  have hn := grname_any s w hT
  have hky := fun W => rkey_any s W hs
  unfold namedB
  cases hq : gnameB s with
  | false =>
    rw [hq] at hn
    clear hq hT
    go_enter Tryd.func53, Tryd.ntmps53
    go_wp2_with (go_at_call 71; refine hn.mono ?_; rintro e w1 ⟨rfl, hb1⟩)
    go_ret
    exact ⟨rfl, hb1⟩
  | true =>
    rw [hq] at hn
    obtain ⟨k, hkk⟩ : ∃ k, k = keyL s.data.toList := ⟨_, rfl⟩
    rw [← hkk] at hky ⊢
    clear hq hT hkk
    cases he : k.isEmpty
    all_goals
      have HE := Aside0.mk he
      go_enter Tryd.func53, Tryd.ntmps53
      go_wp2_with (first | (go_at_call 71; refine hn.mono ?_; rintro e w1 ⟨rfl, hb1⟩) | (go_at_call 72; refine (hky _).mono ?_; rintro e w2 ⟨rfl, hb2⟩))
      go_ret
      exact ⟨by first | rfl | (have := HE.out; simp at this ⊢; exact this), below_then hb1 hb2⟩
set_option maxRecDepth 100000 in
theorem RS.names {w0 : World} {b : Nat} {T : List UInt8} {d : Int} {fl : Bool} {W : World} (h : RS w0 b T d fl W) (s : ByteArray) (hs : s.size ≤ 140737488351232) (hT : Lib.Utf8Tabs 1 2 w0) :
    Calls Tryd.prog 32 #[.pointer (some ⟨b, 0, none⟩), .string s] W fun e w' => e = .returned (.tuple #[]) ∧ (RS w0 b (T ++ s.data.toList) d (fl || !namedB s) w' ∧ KeptR b W w') := by
  have hn := rnamed_any s W (by omega) (Utf8Tabs_below hT h.base)
  have HR := Aside0.mk h
  have HS := Aside0.mk hs
  obtain ⟨nb, hnb⟩ : ∃ nb, nb = namedB s := ⟨_, rfl⟩
  rw [← hnb] at hn ⊢
  clear hnb hT h hs
  cases fl <;> cases nb
  all_goals
    go_enter Tryd.func32, Tryd.ntmps32
    go_upto_region 1 with (go_at_call 53; refine hn.mono ?_; rintro e w1 ⟨rfl, hb1⟩; have HR1 := Aside0.mk (HR.out.below hb1); have hc := HR1.out.cells.2; have hf := HR1.out.free 2; have HK1 : Aside0 (KeptR b W w1) := ⟨keptR_below hb1⟩; clear hb1)
    first
      | (have hsay := (HR1.out.bad true (fun e => by cases e)).say s HS.out
         go_wp2_with (go_at_call 30; refine hsay.mono ?_; rintro e w3 ⟨rfl, h3, k3⟩)
         go_end0
         exact ⟨rfl, h3, (HK1.out.trans (keptR_set b 2 w1 _)).trans k3⟩)
      | (have hsay := (HR1.out.bad false (fun _ => rfl)).say s HS.out
         go_wp2_with (go_at_call 30; refine hsay.mono ?_; rintro e w3 ⟨rfl, h3, k3⟩)
         go_end0
         exact ⟨rfl, h3, (HK1.out.trans (keptR_set b 2 w1 _)).trans k3⟩)
set_option maxRecDepth 100000 in
theorem RS.down {w0 : World} {b : Nat} {T : List UInt8} {d : Nat} {fl : Bool} {W : World} (h : RS w0 b T d fl W) (hd : d ≤ 100) :
    Calls Tryd.prog 45 #[.pointer (some ⟨b, 0, none⟩)] W fun e w' => e = .returned (.tuple #[]) ∧ (RS w0 b T ((d : Int) + 1) (fl || decide (50 < d + 1)) w' ∧ KeptR b W w') := by
  have hc1 := h.cells.1
  have hf1 := h.free 1
  have h2 := h.deep ((d : Int) + 1)
  have hc2 := h2.cells
  have hf2 := h2.free 2
  have HK : Aside0 (KeptR b W (W.setCell ⟨b, 1, none⟩ (.int .i64 ((d : Int) + 1)))) := ⟨keptR_set b 1 W _⟩
  obtain ⟨W2, hW2⟩ : ∃ W2, W2 = W.setCell ⟨b, 1, none⟩ (.int .i64 ((d : Int) + 1)) := ⟨_, rfl⟩
  have hdi : (d : Int) ≤ 100 := by omega
  have hdi0 : (0 : Int) ≤ (d : Int) := by omega
  have H2 := Aside0.mk h2
  cases fl with
  | true =>
    go_enter Tryd.func45, Tryd.ntmps45
    go_wp2
    go_end0
    refine ⟨rfl, ?_, HK.out.trans (keptR_set b 2 _ _)⟩
    simpa using H2.out.bad true (fun e => by cases e)
  | false =>
    by_cases h50 : 50 < d + 1
    · have h50i : (50 : Int) < (d : Int) + 1 := by omega
      rw [decide_eq_true h50]
      clear h50
      go_enter Tryd.func45, Tryd.ntmps45
      go_wp2
      go_end0
      refine ⟨rfl, ?_, HK.out.trans (keptR_set b 2 _ _)⟩
      simpa [h50i] using H2.out.bad true (fun e => by cases e)
    · have h50i : ¬ (50 : Int) < (d : Int) + 1 := by omega
      rw [decide_eq_false h50]
      clear h50
      go_enter Tryd.func45, Tryd.ntmps45
      go_wp2
      go_end0
      refine ⟨rfl, ?_, HK.out.trans (keptR_set b 2 _ _)⟩
      simpa [h50i] using H2.out.bad false (fun _ => rfl)
set_option maxRecDepth 100000 in
theorem RS.lit {w0 : World} {b : Nat} {T : List UInt8} {d : Int} {fl : Bool} {W : World} (h : RS w0 b T d fl W) (v : VX) (hp : ReadsI w0 v.A v.p) (hn : -9223372036854775808 ≤ v.n ∧ v.n ≤ 9223372036854775807) (hs : v.s.size ≤ 140737488351232) (ht : Tabs w0) (hT : Lib.Utf8Tabs 1 2 w0) (hr : rightB v.k v.b v.n v.s v.p = true) (h3 : v.k ≤ 3) :
    Calls Tryd.prog 42 #[.pointer (some ⟨b, 0, none⟩), .agg #[.int .i64 v.k, .bool v.b, .int .i64 v.n, .string v.s, .slice v.A v.p.length v.c]] W fun e w' => e = .returned (.tuple #[]) ∧ (RS w0 b (T ++ litL v) d fl w' ∧ KeptR b W w') := by
  have hS : ∀ W', Below W.heap.size W W' → Calls Tryd.prog 65 #[.agg #[.int .i64 v.k, .bool v.b, .int .i64 v.n, .string v.s, .slice v.A v.p.length v.c]] W' fun e w' => e = .returned (.string ⟨(showQ v.k v.b v.n v.s).toArray⟩) ∧ Below W'.heap.size W' w' :=
    fun W' hW => rshow_q v.k v.n v.b v.s v.A v.p v.c W' (hp.below (below_then h.base hW)) hn (ht.below (below_then h.base hW)) (by omega) (Utf8Tabs_below hT (below_then h.base hW)) hr h3
  have hc := right_small hr h3
  have hq : (showQ v.k v.b v.n v.s).length ≤ 140737488351232 := by
    unfold showQ
    split
    · decide
    · split
      · split <;> decide
      · split
        · have := Lib.itoa_length_le v.n hn.1 hn.2; omega
        · rename_i h0 h1 h2
          have h33 : v.k = 3 := by omega
          have h2 := (right_text hr h33).1
          have h4 := qtext_length v.s.data.toList
          have h5 : v.s.data.toList.length = v.s.size := rfl
          simp only [quoR, List.length_cons, List.length_append, List.length_nil]
          omega
  have HR := Aside0.mk h
  have HQ := Aside0.mk hq
  obtain ⟨k, bb, nn, s, A, p, c⟩ := v
  simp only at hS hc hq HQ ⊢
  clear hr hn hp ht hT h h3 hq hs
  have HRA := fun (W' : World) (hb : Below W.heap.size W W') => HR.out.below hb
  have LITARMS : True := trivial
  rcases hc with rfl | rfl | rfl | rfl
  · have hsay := (HR.out.alloc (.cells #[.int .i64 0, .bool bb, .int .i64 nn, .string s, .slice A p.length c] 27)).say ⟨#[78, 85, 76, 76]⟩ (by decide)
    clear hS
    go_enter Tryd.func42, Tryd.ntmps42
    go_wp2_with (go_at_call 30; refine hsay.mono ?_; rintro e w3 ⟨rfl, h3, k3⟩)
    go_end0
    exact ⟨rfl, h3, (Lib.OthersKept.alloc (Lib.OthersKept.refl _ _ _) _).trans k3⟩
  · cases bb
    · have hsay := (HR.out.alloc (.cells #[.int .i64 1, .bool false, .int .i64 nn, .string s, .slice A p.length c] 27)).say ⟨#[70, 65, 76, 83, 69]⟩ (by decide)
      clear hS
      go_enter Tryd.func42, Tryd.ntmps42
      go_wp2_with (go_at_call 30; refine hsay.mono ?_; rintro e w3 ⟨rfl, h3, k3⟩)
      go_end0
      exact ⟨rfl, h3, (Lib.OthersKept.alloc (Lib.OthersKept.refl _ _ _) _).trans k3⟩
    · have hsay := (HR.out.alloc (.cells #[.int .i64 1, .bool true, .int .i64 nn, .string s, .slice A p.length c] 27)).say ⟨#[84, 82, 85, 69]⟩ (by decide)
      clear hS
      go_enter Tryd.func42, Tryd.ntmps42
      go_wp2_with (go_at_call 30; refine hsay.mono ?_; rintro e w3 ⟨rfl, h3, k3⟩)
      go_end0
      exact ⟨rfl, h3, (Lib.OthersKept.alloc (Lib.OthersKept.refl _ _ _) _).trans k3⟩

  · have hlq : litL ⟨2, bb, nn, s, A, p, c⟩ = showQ 2 bb nn s := rfl
    rw [hlq]
    obtain ⟨l, hl⟩ : ∃ l, l = showQ 2 bb nn s := ⟨_, rfl⟩
    rw [← hl] at hS HQ ⊢
    clear hl hlq
    go_enter Tryd.func42, Tryd.ntmps42
    go_wp2_with (go_at_call 65; refine (hS _ (below_more (Below.refl _ _) _)).mono ?_; rintro e w1 ⟨rfl, hb1⟩)
    have hsay := (HR.out.below (below_then (below_more (Below.refl _ _) _) hb1)).say ⟨l.toArray⟩ (by have : (⟨l.toArray⟩ : ByteArray).size = l.length := by simp [ByteArray.size]
                                                                                                     rw [this]; exact HQ.out)
    have HK1 : Aside0 (KeptR b W w1) := ⟨keptR_below (below_then (below_more (Below.refl _ _) _) hb1)⟩
    clear hb1 hS
    go_wp2_with (go_at_call 30; refine hsay.mono ?_; rintro e w3 ⟨rfl, h3, k3⟩)
    go_end0
    exact ⟨rfl, by simpa using h3, HK1.out.trans k3⟩
  · have hlq : litL ⟨3, bb, nn, s, A, p, c⟩ = showQ 3 bb nn s := rfl
    rw [hlq]
    obtain ⟨l, hl⟩ : ∃ l, l = showQ 3 bb nn s := ⟨_, rfl⟩
    rw [← hl] at hS HQ ⊢
    clear hl hlq
    go_enter Tryd.func42, Tryd.ntmps42
    go_wp2_with (go_at_call 65; refine (hS _ (below_more (Below.refl _ _) _)).mono ?_; rintro e w1 ⟨rfl, hb1⟩)
    have hsay := (HR.out.below (below_then (below_more (Below.refl _ _) _) hb1)).say ⟨l.toArray⟩ (by have : (⟨l.toArray⟩ : ByteArray).size = l.length := by simp [ByteArray.size]
                                                                                                     rw [this]; exact HQ.out)
    have HK1 : Aside0 (KeptR b W w1) := ⟨keptR_below (below_then (below_more (Below.refl _ _) _) hb1)⟩
    clear hb1 hS
    go_wp2_with (go_at_call 30; refine hsay.mono ?_; rintro e w3 ⟨rfl, h3, k3⟩)
    go_end0
    exact ⟨rfl, by simpa using h3, HK1.out.trans k3⟩
end Go.Proofs.YtkchpgjjkckfbaaDoor
