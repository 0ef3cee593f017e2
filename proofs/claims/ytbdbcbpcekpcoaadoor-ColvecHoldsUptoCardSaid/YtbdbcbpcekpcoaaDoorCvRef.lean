/- colvec.Append: what is refused. -/
import Derived.Test.YtbdbcbpcekpcoaaDoorCvVec2
import Derived.Test.YtbdbcbpcekpcoaaDoorCvRead
set_option linter.unusedVariables false
set_option linter.unusedSimpArgs false
namespace Go.Proofs.YtbdbcbpcekpcoaaDoor
open Go.RowKit Go.Maps

set_option maxRecDepth 100000 in
set_option maxHeartbeats 12800000 in
theorem app_bad (k xk xn : Int) (xb : Bool) (xs : ByteArray) (xA : Option Addr) (xp : List Int) (xc : Nat) (F : Nat → Prop) (b : Nat) (s : VS) (w : World) (hv : VecIs w F b s) (hsk : s.k = k) (hr : ReadsI w xA xp) (hR : rightB xk xb xn xs xp = false) :
    Calls Tryd.prog 12 #[.pointer (some ⟨b, 0, none⟩), .agg #[.int .i64 xk, .bool xb, .int .i64 xn, .string xs, .slice xA xp.length xc]] w fun e w' => e = .returned (.int .i64 31) ∧ VecIs w' (orNew F w) b s ∧ KeptBut F w w' := by
  have HVI := Aside0.mk hv
  obtain ⟨nv, bv, iv, dv, hvv, m, hV⟩ := hv
  obtain ⟨W1, hW1⟩ : ∃ W1, W1 = w.alloc (.cells #[.int .i64 xk, .bool xb, .int .i64 xn, .string xs, .slice xA xp.length xc] 39) := ⟨_, rfl⟩
  have hRt : ∀ W, Below W1.heap.size W1 W → Calls Tryd.prog 29 #[.agg #[.int .i64 xk, .bool xb, .int .i64 xn, .string xs, .slice xA xp.length xc]] W fun e w' => e = .returned (.bool false) ∧ Below W.heap.size W w' := fun W hW => by
    have h := right_any xk xn xb xs xA xp xc W ((hr.below (hW1 ▸ below_more (Below.refl _ _) _)).below hW)
    rw [hR] at h
    exact h
  have hbx := hV.box
  have hbw : b < w.heap.size := hbx.lt
  rw [hsk] at hbx
  have hx1 : Box W1 w.heap.size #[.int .i64 xk, .bool xb, .int .i64 xn, .string xs, .slice xA xp.length xc] := by rw [hW1]; exact Box.new w _
  have hv1 : VecB W1 b #[.int .i64 k, .int .i64 (s.nl.length : Int), nv, bv, iv, dv, .map (some m), hvv] := hbx.at_ (by rw [hW1]; exact heap_alloc_old w _ hbw)
  have hb1 : b < W1.heap.size := hv1.lt
  have hxl1 : w.heap.size < W1.heap.size := hx1.lt
  have HS1 : Aside0 (∀ W, Below W1.heap.size W1 W → (fun WW => WW.cell? ⟨w.heap.size, 0, none⟩ = some (.int .i64 xk) ∧ WW.cell? ⟨w.heap.size, 1, none⟩ = some (.bool xb) ∧ WW.cell? ⟨w.heap.size, 2, none⟩ = some (.int .i64 xn) ∧ WW.cell? ⟨w.heap.size, 3, none⟩ = some (.string xs) ∧ WW.cell? ⟨w.heap.size, 4, none⟩ = some (.slice xA xp.length xc) ∧ WW.cell? ⟨b, 0, none⟩ = some (.int .i64 k)) W) := ⟨fun W h => by
    have e1 := (hx1.at_ (h.block _ hxl1)).cells
    have e2 := (hv1.at_ (h.block _ hb1)).cells
    exact ⟨e1 0, e1 1, e1 2, e1 3, e1 4, e2 0⟩⟩
  have hS1 : (fun WW => WW.cell? ⟨w.heap.size, 0, none⟩ = some (.int .i64 xk) ∧ WW.cell? ⟨w.heap.size, 1, none⟩ = some (.bool xb) ∧ WW.cell? ⟨w.heap.size, 2, none⟩ = some (.int .i64 xn) ∧ WW.cell? ⟨w.heap.size, 3, none⟩ = some (.string xs) ∧ WW.cell? ⟨w.heap.size, 4, none⟩ = some (.slice xA xp.length xc) ∧ WW.cell? ⟨b, 0, none⟩ = some (.int .i64 k)) W1 := HS1.out W1 (Below.refl _ _)
  have HK1 : Aside0 (Below w.heap.size w W1) := ⟨by rw [hW1]; exact below_more (Below.refl _ _) _⟩
  clear hV hsk hR hr hbx
  go_enter Tryd.func12, Tryd.ntmps12
  go_upto_region 1 with (fail)
  rw [← hW1]
  clear hW1
  refine wp_region_held_drew (S := (fun WW => WW.cell? ⟨w.heap.size, 0, none⟩ = some (.int .i64 xk) ∧ WW.cell? ⟨w.heap.size, 1, none⟩ = some (.bool xb) ∧ WW.cell? ⟨w.heap.size, 2, none⟩ = some (.int .i64 xn) ∧ WW.cell? ⟨w.heap.size, 3, none⟩ = some (.string xs) ∧ WW.cell? ⟨w.heap.size, 4, none⟩ = some (.slice xA xp.length xc) ∧ WW.cell? ⟨b, 0, none⟩ = some (.int .i64 k))) (by kernel_rfl) ?_ (fun hHeld => ?_)
  · first | exact hS2 | exact hS1
  refine take_in (i := 0) (v := ?v0a) rfl (by kernel_rfl) (by kernel_rfl) (by kernel_rfl) (fun _ _ _ h => h) (by rfl) ?hy0a (by assumption) ?_
  case hy0a => intro WW hSw; (try dsimp only at hSw); go_simp; try with_reducible rfl
  try simp only [Act.put, List.setIfInBounds_toArray, List.set_cons_zero, List.set_cons_succ]
  refine one_step (i := 1) (by kernel_rfl) rfl (fun K hK => ?_)
  go_simp
  go_at_call 29
  go_loud (refine (hRt _ (by first | exact Below.refl _ _ | exact (Below.refl _ _).drew)).mono ?_)
  first
    | (intro e W2 he hb2; subst he)
    | rintro e W2 ⟨rfl, hb2⟩
  have hB2 : Below W1.heap.size W1 W2 := by first | exact hb2 | exact (Below.refl _ _).drew.trans hb2 | exact ((Below.refl _ _).drew).trans (hb2.mono (Nat.le_refl _))
  have hS2 : (fun WW => WW.cell? ⟨w.heap.size, 0, none⟩ = some (.int .i64 xk) ∧ WW.cell? ⟨w.heap.size, 1, none⟩ = some (.bool xb) ∧ WW.cell? ⟨w.heap.size, 2, none⟩ = some (.int .i64 xn) ∧ WW.cell? ⟨w.heap.size, 3, none⟩ = some (.string xs) ∧ WW.cell? ⟨w.heap.size, 4, none⟩ = some (.slice xA xp.length xc) ∧ WW.cell? ⟨b, 0, none⟩ = some (.int .i64 k)) W2 := HS1.out W2 hB2
  refine hK.out _ _ ?_ (fun hHeld => ?_)
  · first | exact hS2 | exact hS1
  clear hK K
  try simp only [Act.put, List.setIfInBounds_toArray, List.set_cons_zero, List.set_cons_succ]
  refine take_in (i := 2) (v := .bool true) rfl (by kernel_rfl) (by kernel_rfl) (by kernel_rfl) (fun _ _ _ h => h) (by rfl) ?hy2a (by assumption) ?_
  case hy2a => intro WW hSw; (try dsimp only at hSw); go_simp; try with_reducible rfl
  try simp only [Act.put, List.setIfInBounds_toArray, List.set_cons_zero, List.set_cons_succ]
  refine take_in (i := 3) (v := .bool true) rfl (by kernel_rfl) (by kernel_rfl) (by kernel_rfl) (fun _ _ _ h => h) (by rfl) ?hy3a (by assumption) ?_
  case hy3a => intro WW hSw; (try dsimp only at hSw); go_simp; try with_reducible rfl
  try simp only [Act.put, List.setIfInBounds_toArray, List.set_cons_zero, List.set_cons_succ]
  refine take_out (i := 4) rfl (by kernel_rfl) (by kernel_rfl) (by kernel_rfl) (fun _ _ _ h => h) (by rfl) (by assumption) ?_
  try simp only [Act.put, List.setIfInBounds_toArray, List.set_cons_zero, List.set_cons_succ]
  refine take_out (i := 5) rfl (by kernel_rfl) (by kernel_rfl) (by kernel_rfl) (fun _ _ _ h => h) (by rfl) (by assumption) ?_
  try simp only [Act.put, List.setIfInBounds_toArray, List.set_cons_zero, List.set_cons_succ]
  refine take_out (i := 6) rfl (by kernel_rfl) (by kernel_rfl) (by kernel_rfl) (fun _ _ _ h => h) (by rfl) (by assumption) ?_
  try simp only [Act.put, List.setIfInBounds_toArray, List.set_cons_zero, List.set_cons_succ]
  refine take_out (i := 7) rfl (by kernel_rfl) (by kernel_rfl) (by kernel_rfl) (fun _ _ _ h => h) (by rfl) (by assumption) ?_
  try simp only [Act.put, List.setIfInBounds_toArray, List.set_cons_zero, List.set_cons_succ]
  refine take_out (i := 8) rfl (by kernel_rfl) (by kernel_rfl) (by kernel_rfl) (fun _ _ _ h => h) (by rfl) (by assumption) ?_
  try simp only [Act.put, List.setIfInBounds_toArray, List.set_cons_zero, List.set_cons_succ]
  refine take_out (i := 9) rfl (by kernel_rfl) (by kernel_rfl) (by kernel_rfl) (fun _ _ _ h => h) (by rfl) (by assumption) ?_
  try simp only [Act.put, List.setIfInBounds_toArray, List.set_cons_zero, List.set_cons_succ]
  refine take_out (i := 10) rfl (by kernel_rfl) (by kernel_rfl) (by kernel_rfl) (fun _ _ _ h => h) (by rfl) (by assumption) ?_
  try simp only [Act.put, List.setIfInBounds_toArray, List.set_cons_zero, List.set_cons_succ]
  refine take_out (i := 11) rfl (by kernel_rfl) (by kernel_rfl) (by kernel_rfl) (fun _ _ _ h => h) (by rfl) (by assumption) ?_
  try simp only [Act.put, List.setIfInBounds_toArray, List.set_cons_zero, List.set_cons_succ]
  refine take_out (i := 12) rfl (by kernel_rfl) (by kernel_rfl) (by kernel_rfl) (fun _ _ _ h => h) (by rfl) (by assumption) ?_
  try simp only [Act.put, List.setIfInBounds_toArray, List.set_cons_zero, List.set_cons_succ]
  refine take_out (i := 13) rfl (by kernel_rfl) (by kernel_rfl) (by kernel_rfl) (fun _ _ _ h => h) (by rfl) (by assumption) ?_
  try simp only [Act.put, List.setIfInBounds_toArray, List.set_cons_zero, List.set_cons_succ]
  refine take_out (i := 14) rfl (by kernel_rfl) (by kernel_rfl) (by kernel_rfl) (fun _ _ _ h => h) (by rfl) (by assumption) ?_
  try simp only [Act.put, List.setIfInBounds_toArray, List.set_cons_zero, List.set_cons_succ]
  refine take_out (i := 15) rfl (by kernel_rfl) (by kernel_rfl) (by kernel_rfl) (fun _ _ _ h => h) (by rfl) (by assumption) ?_
  try simp only [Act.put, List.setIfInBounds_toArray, List.set_cons_zero, List.set_cons_succ]
  refine take_in (i := 16) (v := .bool true) rfl (by kernel_rfl) (by kernel_rfl) (by kernel_rfl) (fun _ _ _ h => h) (by rfl) ?hy16a (by assumption) ?_
  case hy16a => intro WW hSw; (try dsimp only at hSw); go_simp; try with_reducible rfl
  try simp only [Act.put, List.setIfInBounds_toArray, List.set_cons_zero, List.set_cons_succ]
  refine wpAnyH_done (by kernel_rfl) ?_ _
  have HW2 : Aside0 (Below w.heap.size w W2) := ⟨below_then HK1.out hB2⟩
  clear hx1 hv1 hS1 HS1 hS2 hHeld hb1 hxl1 hRt hB2 hb2
  go_wp2
  go_ret
  have hB := HW2.out
  exact ⟨rfl, vecIs_mono (vecIs_at HVI.out (fun k hk _ => hB.block k hk)) (fun k h => .inl h), keptBut_below hB⟩
set_option maxRecDepth 100000 in
set_option maxHeartbeats 12800000 in
theorem app_other (k xk xn : Int) (xb : Bool) (xs : ByteArray) (xA : Option Addr) (xp : List Int) (xc : Nat) (F : Nat → Prop) (b : Nat) (s : VS) (w : World) (hv : VecIs w F b s) (hsk : s.k = k) (hr : ReadsI w xA xp) (hR : rightB xk xb xn xs xp = true) (hne : ¬ xk = k) (hn0 : ¬ xk = 0) :
    Calls Tryd.prog 12 #[.pointer (some ⟨b, 0, none⟩), .agg #[.int .i64 xk, .bool xb, .int .i64 xn, .string xs, .slice xA xp.length xc]] w fun e w' => e = .returned (.int .i64 31) ∧ VecIs w' (orNew F w) b s ∧ KeptBut F w w' := by
  have HVI := Aside0.mk hv
  obtain ⟨nv, bv, iv, dv, hvv, m, hV⟩ := hv
  obtain ⟨W1, hW1⟩ : ∃ W1, W1 = w.alloc (.cells #[.int .i64 xk, .bool xb, .int .i64 xn, .string xs, .slice xA xp.length xc] 39) := ⟨_, rfl⟩
  have hRt : ∀ W, Below W1.heap.size W1 W → Calls Tryd.prog 29 #[.agg #[.int .i64 xk, .bool xb, .int .i64 xn, .string xs, .slice xA xp.length xc]] W fun e w' => e = .returned (.bool true) ∧ Below W.heap.size W w' := fun W hW => by
    have h := right_any xk xn xb xs xA xp xc W ((hr.below (hW1 ▸ below_more (Below.refl _ _) _)).below hW)
    rw [hR] at h
    exact h
  have hbx := hV.box
  have hbw : b < w.heap.size := hbx.lt
  rw [hsk] at hbx
  have hx1 : Box W1 w.heap.size #[.int .i64 xk, .bool xb, .int .i64 xn, .string xs, .slice xA xp.length xc] := by rw [hW1]; exact Box.new w _
  have hv1 : VecB W1 b #[.int .i64 k, .int .i64 (s.nl.length : Int), nv, bv, iv, dv, .map (some m), hvv] := hbx.at_ (by rw [hW1]; exact heap_alloc_old w _ hbw)
  have hb1 : b < W1.heap.size := hv1.lt
  have hxl1 : w.heap.size < W1.heap.size := hx1.lt
  have HS1 : Aside0 (∀ W, Below W1.heap.size W1 W → (fun WW => WW.cell? ⟨w.heap.size, 0, none⟩ = some (.int .i64 xk) ∧ WW.cell? ⟨w.heap.size, 1, none⟩ = some (.bool xb) ∧ WW.cell? ⟨w.heap.size, 2, none⟩ = some (.int .i64 xn) ∧ WW.cell? ⟨w.heap.size, 3, none⟩ = some (.string xs) ∧ WW.cell? ⟨w.heap.size, 4, none⟩ = some (.slice xA xp.length xc) ∧ WW.cell? ⟨b, 0, none⟩ = some (.int .i64 k)) W) := ⟨fun W h => by
    have e1 := (hx1.at_ (h.block _ hxl1)).cells
    have e2 := (hv1.at_ (h.block _ hb1)).cells
    exact ⟨e1 0, e1 1, e1 2, e1 3, e1 4, e2 0⟩⟩
  have hS1 : (fun WW => WW.cell? ⟨w.heap.size, 0, none⟩ = some (.int .i64 xk) ∧ WW.cell? ⟨w.heap.size, 1, none⟩ = some (.bool xb) ∧ WW.cell? ⟨w.heap.size, 2, none⟩ = some (.int .i64 xn) ∧ WW.cell? ⟨w.heap.size, 3, none⟩ = some (.string xs) ∧ WW.cell? ⟨w.heap.size, 4, none⟩ = some (.slice xA xp.length xc) ∧ WW.cell? ⟨b, 0, none⟩ = some (.int .i64 k)) W1 := HS1.out W1 (Below.refl _ _)
  have HK1 : Aside0 (Below w.heap.size w W1) := ⟨by rw [hW1]; exact below_more (Below.refl _ _) _⟩
  have hkk : (xk != k) = true := by rw [bne_iff_ne]; exact hne
  have hx0 : (xk != 0) = true := by rw [bne_iff_ne]; exact hn0
  clear hV hsk hR hr hbx
  go_enter Tryd.func12, Tryd.ntmps12
  go_upto_region 1 with (fail)
  rw [← hW1]
  clear hW1
  refine wp_region_held_drew (S := (fun WW => WW.cell? ⟨w.heap.size, 0, none⟩ = some (.int .i64 xk) ∧ WW.cell? ⟨w.heap.size, 1, none⟩ = some (.bool xb) ∧ WW.cell? ⟨w.heap.size, 2, none⟩ = some (.int .i64 xn) ∧ WW.cell? ⟨w.heap.size, 3, none⟩ = some (.string xs) ∧ WW.cell? ⟨w.heap.size, 4, none⟩ = some (.slice xA xp.length xc) ∧ WW.cell? ⟨b, 0, none⟩ = some (.int .i64 k))) (by kernel_rfl) ?_ (fun hHeld => ?_)
  · first | exact hS2 | exact hS1
  refine take_in (i := 0) (v := ?v0a) rfl (by kernel_rfl) (by kernel_rfl) (by kernel_rfl) (fun _ _ _ h => h) (by rfl) ?hy0a (by assumption) ?_
  case hy0a => intro WW hSw; (try dsimp only at hSw); go_simp; try with_reducible rfl
  try simp only [Act.put, List.setIfInBounds_toArray, List.set_cons_zero, List.set_cons_succ]
  refine one_step (i := 1) (by kernel_rfl) rfl (fun K hK => ?_)
  go_simp
  go_at_call 29
  go_loud (refine (hRt _ (by first | exact Below.refl _ _ | exact (Below.refl _ _).drew)).mono ?_)
  first
    | (intro e W2 he hb2; subst he)
    | rintro e W2 ⟨rfl, hb2⟩
  have hB2 : Below W1.heap.size W1 W2 := by first | exact hb2 | exact (Below.refl _ _).drew.trans hb2 | exact ((Below.refl _ _).drew).trans (hb2.mono (Nat.le_refl _))
  have hS2 : (fun WW => WW.cell? ⟨w.heap.size, 0, none⟩ = some (.int .i64 xk) ∧ WW.cell? ⟨w.heap.size, 1, none⟩ = some (.bool xb) ∧ WW.cell? ⟨w.heap.size, 2, none⟩ = some (.int .i64 xn) ∧ WW.cell? ⟨w.heap.size, 3, none⟩ = some (.string xs) ∧ WW.cell? ⟨w.heap.size, 4, none⟩ = some (.slice xA xp.length xc) ∧ WW.cell? ⟨b, 0, none⟩ = some (.int .i64 k)) W2 := HS1.out W2 hB2
  refine hK.out _ _ ?_ (fun hHeld => ?_)
  · first | exact hS2 | exact hS1
  clear hK K
  try simp only [Act.put, List.setIfInBounds_toArray, List.set_cons_zero, List.set_cons_succ]
  refine take_in (i := 2) (v := .bool false) rfl (by kernel_rfl) (by kernel_rfl) (by kernel_rfl) (fun _ _ _ h => h) (by rfl) ?hy2a (by assumption) ?_
  case hy2a => intro WW hSw; (try dsimp only at hSw); go_simp; try with_reducible rfl
  try simp only [Act.put, List.setIfInBounds_toArray, List.set_cons_zero, List.set_cons_succ]
  refine take_in (i := 3) (v := .bool false) rfl (by kernel_rfl) (by kernel_rfl) (by kernel_rfl) (fun _ _ _ h => h) (by rfl) ?hy3a (by assumption) ?_
  case hy3a => intro WW hSw; (try dsimp only at hSw); go_simp; try with_reducible rfl
  try simp only [Act.put, List.setIfInBounds_toArray, List.set_cons_zero, List.set_cons_succ]
  refine take_in (i := 4) (v := ?v4a) rfl (by kernel_rfl) (by kernel_rfl) (by kernel_rfl) (fun _ _ _ h => h) (by rfl) ?hy4a (by assumption) ?_
  case hy4a => intro WW hSw; (try dsimp only at hSw); go_simp; try with_reducible rfl
  try simp only [Act.put, List.setIfInBounds_toArray, List.set_cons_zero, List.set_cons_succ]
  refine take_in (i := 5) (v := ?v5a) rfl (by kernel_rfl) (by kernel_rfl) (by kernel_rfl) (fun _ _ _ h => h) (by rfl) ?hy5a (by assumption) ?_
  case hy5a => intro WW hSw; (try dsimp only at hSw); go_simp; try with_reducible rfl
  try simp only [Act.put, List.setIfInBounds_toArray, List.set_cons_zero, List.set_cons_succ]
  refine take_in (i := 6) (v := ?v6a) rfl (by kernel_rfl) (by kernel_rfl) (by kernel_rfl) (fun _ _ _ h => h) (by rfl) ?hy6a (by assumption) ?_
  case hy6a => intro WW hSw; (try dsimp only at hSw); go_simp; try with_reducible rfl
  try simp only [Act.put, List.setIfInBounds_toArray, List.set_cons_zero, List.set_cons_succ]
  refine take_in (i := 7) (v := ?v7a) rfl (by kernel_rfl) (by kernel_rfl) (by kernel_rfl) (fun _ _ _ h => h) (by rfl) ?hy7a (by assumption) ?_
  case hy7a => intro WW hSw; (try dsimp only at hSw); go_simp; try with_reducible rfl
  try simp only [Act.put, List.setIfInBounds_toArray, List.set_cons_zero, List.set_cons_succ]
  refine take_in (i := 8) (v := ?v8a) rfl (by kernel_rfl) (by kernel_rfl) (by kernel_rfl) (fun _ _ _ h => h) (by rfl) ?hy8a (by assumption) ?_
  case hy8a => intro WW hSw; (try dsimp only at hSw); go_simp; try with_reducible rfl
  try simp only [Act.put, List.setIfInBounds_toArray, List.set_cons_zero, List.set_cons_succ]
  refine take_in (i := 9) (v := ?v9a) rfl (by kernel_rfl) (by kernel_rfl) (by kernel_rfl) (fun _ _ _ h => h) (by rfl) ?hy9a (by assumption) ?_
  case hy9a => intro WW hSw; (try dsimp only at hSw); go_simp; try with_reducible rfl
  try simp only [Act.put, List.setIfInBounds_toArray, List.set_cons_zero, List.set_cons_succ]
  refine take_in (i := 10) (v := .bool true) rfl (by kernel_rfl) (by kernel_rfl) (by kernel_rfl) (fun _ _ _ h => h) (by rfl) ?hy10a (by assumption) ?_
  case hy10a => intro WW hSw; (try dsimp only at hSw); have hh := hkk; go_simp; try with_reducible rfl
  try simp only [Act.put, List.setIfInBounds_toArray, List.set_cons_zero, List.set_cons_succ]
  refine take_in (i := 11) (v := .bool true) rfl (by kernel_rfl) (by kernel_rfl) (by kernel_rfl) (fun _ _ _ h => h) (by rfl) ?hy11a (by assumption) ?_
  case hy11a => intro WW hSw; (try dsimp only at hSw); go_simp; try with_reducible rfl
  try simp only [Act.put, List.setIfInBounds_toArray, List.set_cons_zero, List.set_cons_succ]
  refine take_in (i := 12) (v := ?v12a) rfl (by kernel_rfl) (by kernel_rfl) (by kernel_rfl) (fun _ _ _ h => h) (by rfl) ?hy12a (by assumption) ?_
  case hy12a => intro WW hSw; (try dsimp only at hSw); go_simp; try with_reducible rfl
  try simp only [Act.put, List.setIfInBounds_toArray, List.set_cons_zero, List.set_cons_succ]
  refine take_in (i := 13) (v := ?v13a) rfl (by kernel_rfl) (by kernel_rfl) (by kernel_rfl) (fun _ _ _ h => h) (by rfl) ?hy13a (by assumption) ?_
  case hy13a => intro WW hSw; (try dsimp only at hSw); go_simp; try with_reducible rfl
  try simp only [Act.put, List.setIfInBounds_toArray, List.set_cons_zero, List.set_cons_succ]
  refine take_in (i := 14) (v := .bool true) rfl (by kernel_rfl) (by kernel_rfl) (by kernel_rfl) (fun _ _ _ h => h) (by rfl) ?hy14a (by assumption) ?_
  case hy14a => intro WW hSw; (try dsimp only at hSw); have hh := hx0; go_simp; try with_reducible rfl
  try simp only [Act.put, List.setIfInBounds_toArray, List.set_cons_zero, List.set_cons_succ]
  refine take_in (i := 15) (v := .bool true) rfl (by kernel_rfl) (by kernel_rfl) (by kernel_rfl) (fun _ _ _ h => h) (by rfl) ?hy15a (by assumption) ?_
  case hy15a => intro WW hSw; (try dsimp only at hSw); go_simp; try with_reducible rfl
  try simp only [Act.put, List.setIfInBounds_toArray, List.set_cons_zero, List.set_cons_succ]
  refine take_in (i := 16) (v := .bool true) rfl (by kernel_rfl) (by kernel_rfl) (by kernel_rfl) (fun _ _ _ h => h) (by rfl) ?hy16a (by assumption) ?_
  case hy16a => intro WW hSw; (try dsimp only at hSw); go_simp; try with_reducible rfl
  try simp only [Act.put, List.setIfInBounds_toArray, List.set_cons_zero, List.set_cons_succ]
  refine wpAnyH_done (by kernel_rfl) ?_ _
  have HW2 : Aside0 (Below w.heap.size w W2) := ⟨below_then HK1.out hB2⟩
  clear hx1 hv1 hS1 HS1 hS2 hHeld hb1 hxl1 hRt hB2 hb2
  go_wp2
  go_ret
  have hB := HW2.out
  exact ⟨rfl, vecIs_mono (vecIs_at HVI.out (fun k hk _ => hB.block k hk)) (fun k h => .inl h), keptBut_below hB⟩
end Go.Proofs.YtbdbcbpcekpcoaaDoor
