/- At of a column of truths, of texts. -/
import Derived.Test.YtbdbcbpcekpcoaaDoorCvAppA
import Derived.Test.YtbdbcbpcekpcoaaDoorCvDk
set_option linter.unusedVariables false
set_option linter.unusedSimpArgs false
namespace Go.Proofs.YtbdbcbpcekpcoaaDoor
open Go.RowKit Go.Maps

theorem add_0 (g i : Nat) : (⟨g, 0, none⟩ : Addr).add i = ⟨g, i, none⟩ := by
  unfold Addr.add
  split
  · rename_i h; rw [h]
  · simp
theorem bset {w W : World} {b j : Nat} {v : Value} (h : Below w.heap.size w W) (hb : w.heap.size ≤ b) : Below w.heap.size w (W.setCell ⟨b, j, none⟩ v) := below_set h hb v
set_option maxRecDepth 100000 in
set_option maxHeartbeats 3200000 in
theorem at_bool (F : Nat → Prop) (b : Nat) (s : VS) (i : Nat) (w : World) (hv : VecIs w F b s) (hi : i < s.nl.length) (hbit : s.nl.getD i false = false) (hN9 : s.nl.length ≤ 1000000000000) (hk : s.k = 1) (hbl : s.bl.length = s.nl.length) :
    Calls Tryd.prog 21 #[.pointer (some ⟨b, 0, none⟩), .int .i64 (i : Int)] w fun e w' => e = .returned (.agg #[.int .i64 1, .bool (s.bl.getD i false), .int .i64 0, .string ⟨#[]⟩, .slice none 0 0]) ∧ Below w.heap.size w w' := by
  obtain ⟨nv, bv, iv, dv, hvv, m, hV⟩ := hv
  obtain ⟨W1, hW1⟩ : ∃ W1, W1 = w.alloc (.cells zeroC 39) := ⟨_, rfl⟩
  have hbw := hV.box.lt
  have hv1 : VecB W1 b _ := hV.box.at_ (by rw [hW1]; exact heap_alloc_old w _ hbw)
  have hx1 : Box W1 w.heap.size zeroC := by rw [hW1]; exact Box.new w _
  have HB1 : Below w.heap.size w W1 := by rw [hW1]; exact below_more (Below.refl _ _) _
  have hc := hv1.cells
  have hf := hv1.free
  have hxc : ∀ j, W1.cell? ⟨w.heap.size, j, none⟩ = (#[.int .i64 0, .bool false, .int .i64 0, .string ⟨#[]⟩, .slice none 0 0] : Array Value)[j]? := hx1.cells
  have hxf := hx1.free
  obtain ⟨An, cn, rfl, hrn, _⟩ := own_words hV.nulls
  have hrn1 : ReadsU W1 An (packW s.nl) := ⟨hrn.1, fun hp => by
    obtain ⟨ad, e, h⟩ := hrn.2 hp
    exact ⟨ad, e, fun j hj => (HB1.cell (World.block_lt_of_cell? w _ (h j hj))).trans (h j hj)⟩⟩
  have hm := marked_any An s.nl cn i W1 hrn1 hi
  rw [hbit] at hm
  obtain ⟨N, hN⟩ : ∃ N, N = s.nl.length := ⟨_, rfl⟩
  rw [← hN] at hc hi
  have hi0 : (0 : Int) ≤ (i : Int) := by omega
  have hi1 : (i : Int) < (N : Int) := by omega
  have hi2 : ¬ (i : Int) < 0 := by omega
  have hi3 : ¬ (N : Int) ≤ (i : Int) := by omega
  have hi4 : ¬ N ≤ i := by omega
  have HN := Aside0.mk hN
  rw [hk] at hc hv1
  obtain ⟨Ab, cb, rfl, hrb, _⟩ := own_words hV.bools
  have HMB : Aside0 (∀ W, Below w.heap.size w W → Calls Tryd.prog 33 #[.slice Ab (packW s.bl).length cb, .int .i64 (i : Int)] W fun e w' => e = .returned (.bool (s.bl.getD i false)) ∧ w' = W) := ⟨fun W h => by
    have h2 := marked_any Ab s.bl cb i W ⟨hrb.1, fun hp => by
      obtain ⟨ad, e, g⟩ := hrb.2 hp
      exact ⟨ad, e, fun j hj => (h.cell (World.block_lt_of_cell? w _ (g j hj))).trans (g j hj)⟩⟩ (by omega)
    exact h2.mono (fun e w' h => by simpa [eq_comm] using h)⟩
  generalize s.bl.getD i false = y at HMB ⊢
  rw [← hN] at hv1
  have HV1 := Aside0.mk hv1
  have hb1 := hv1.lt
  clear hV hrn hrn1 hN hbit hrb hbl hk hv1
  go_enter Tryd.func21, Tryd.ntmps21
  go_upto_region 1 with (fail)
  rw [show w.alloc (.cells #[.int .i64 0, .bool false, .int .i64 0, .string ⟨#[]⟩, .slice none 0 0] 39) = W1 from hW1.symm]
  clear hW1
  go_upto_region 4 with (go_at_call 33; go_loud (refine hm.mono ?_))
  obtain ⟨W2, hW2⟩ : ∃ W2, W2 = W1.alloc (.cells #[.int .i64 1, .bool false, .int .i64 0, .string ⟨#[]⟩, .slice none 0 0] 39) := ⟨_, rfl⟩
  obtain ⟨b2, hb2⟩ : ∃ b2, b2 = W1.heap.size := ⟨_, rfl⟩
  rw [← hW2, ← hb2]
  have HB2 : Below w.heap.size w W2 := by rw [hW2]; exact below_more HB1 _
  have hx2 : Box W2 b2 #[.int .i64 1, .bool false, .int .i64 0, .string ⟨#[]⟩, .slice none 0 0] := by rw [hW2, hb2]; exact Box.new W1 _
  have hbw1 : w.heap.size < W1.heap.size := hx1.lt
  have hxr2 : Box W2 w.heap.size zeroC := hx1.at_ (by rw [hW2]; exact heap_alloc_old _ _ hbw1)
  have hv2 := HV1.out.at_ (W' := W2) (by rw [hW2]; exact heap_alloc_old _ _ hb1)
  have hc2 := hv2.cells
  have hf2 := hv2.free
  have hx2c := hx2.cells
  have hx2f := hx2.free
  have hxrc : ∀ j, W2.cell? ⟨w.heap.size, j, none⟩ = (#[.int .i64 0, .bool false, .int .i64 0, .string ⟨#[]⟩, .slice none 0 0] : Array Value)[j]? := hxr2.cells
  have hxrf := hxr2.free
  have hne : w.heap.size ≠ b2 := by omega
  have hne2 : b2 ≠ w.heap.size := by omega
  have hbb : w.heap.size ≤ b2 := by omega
  have hmb := HMB.out W2 HB2
  clear hW2 hb2 hc hf hxc hxf HB1 hv2 hx1 HV1 hb1
  go_upto_region 15 with (go_at_call 33; go_loud (refine hmb.mono ?_))
  first
    | (intro e Wl he hWl; subst he)
    | rintro e Wl ⟨rfl, hWl⟩
  have hWl2 := hWl.symm
  clear hWl
  subst hWl2
  go_upto_region 15 with (fail)
  obtain ⟨W3, hW3⟩ : ∃ W3, W3 = W2.setCell ⟨b2, 1, none⟩ (.bool y) := ⟨_, rfl⟩
  rw [← hW3]
  have HB3 : Below w.heap.size w W3 := by rw [hW3]; (repeat (first | exact HB2 | exact hbb | apply below_drew | apply bset))
  have hx3 : Box W3 b2 #[.int .i64 1, .bool y, .int .i64 0, .string ⟨#[]⟩, .slice none 0 0] := by rw [hW3]; exact hx2.put 1 _
  have hxr3 : Box W3 w.heap.size zeroC := hxr2.at_ (by rw [hW3]; exact heap_setCell_other _ _ _ _ hne)
  have hx3c := hx3.cells
  have hx3f := hx3.free
  have hxrc3 : ∀ j, W3.cell? ⟨w.heap.size, j, none⟩ = (#[.int .i64 0, .bool false, .int .i64 0, .string ⟨#[]⟩, .slice none 0 0] : Array Value)[j]? := hxr3.cells
  have hxrf3 := hxr3.free
  clear hW3 hc2 hf2 hx2c hx2f hxrc hxrf HB2 hx2 hxr2
  go_wp2
  obtain ⟨W7, hW7⟩ : ∃ W7, W7 = (((((W3.setCell ⟨w.heap.size, 0, none⟩ (.int .i64 1)).setCell ⟨w.heap.size, 1, none⟩ (.bool y)).setCell ⟨w.heap.size, 2, none⟩ (.int .i64 0)).setCell ⟨w.heap.size, 3, none⟩ (.string ⟨#[]⟩)).setCell ⟨w.heap.size, 4, none⟩ (.slice none 0 0)) := ⟨_, rfl⟩
  rw [← hW7]
  have HB7 : Below w.heap.size w W7 := by rw [hW7]; exact below_set (below_set (below_set (below_set (below_set HB3 (Nat.le_refl _) _) (Nat.le_refl _) _) (Nat.le_refl _) _) (Nat.le_refl _) _) (Nat.le_refl _) _
  have xr7 : Box W7 w.heap.size #[.int .i64 1, .bool y, .int .i64 0, .string ⟨#[]⟩, .slice none 0 0] := by rw [hW7]; exact ((((hxr3.put 0 _).put 1 _).put 2 _).put 3 _).put 4 _
  refine bodyPost_ret (results_val rfl rfl xr7 rfl) rfl ?_
  exact ⟨rfl, HB7⟩
set_option maxRecDepth 100000 in
set_option maxHeartbeats 3200000 in
theorem at_text (F : Nat → Prop) (b : Nat) (s : VS) (i : Nat) (w : World) (hv : VecIs w F b s) (hi : i < s.nl.length) (hbit : s.nl.getD i false = false) (hN9 : s.nl.length ≤ 1000000000000) (hk : s.k = 3) (hil : s.il.length = s.nl.length) (q : Nat) (hq : s.il.getD i 0 = (q : Int)) (hqd : q < s.dl.length) (hdl : s.dl.length ≤ 1000000000000) :
    Calls Tryd.prog 21 #[.pointer (some ⟨b, 0, none⟩), .int .i64 (i : Int)] w fun e w' => e = .returned (.agg #[.int .i64 3, .bool false, .int .i64 0, .string (s.dl.getD q ByteArray.empty), .slice none 0 0]) ∧ Below w.heap.size w w' := by
  obtain ⟨nv, bv, iv, dv, hvv, m, hV⟩ := hv
  obtain ⟨W1, hW1⟩ : ∃ W1, W1 = w.alloc (.cells zeroC 39) := ⟨_, rfl⟩
  have hbw := hV.box.lt
  have hv1 : VecB W1 b _ := hV.box.at_ (by rw [hW1]; exact heap_alloc_old w _ hbw)
  have hx1 : Box W1 w.heap.size zeroC := by rw [hW1]; exact Box.new w _
  have HB1 : Below w.heap.size w W1 := by rw [hW1]; exact below_more (Below.refl _ _) _
  have hc := hv1.cells
  have hf := hv1.free
  have hxc : ∀ j, W1.cell? ⟨w.heap.size, j, none⟩ = (#[.int .i64 0, .bool false, .int .i64 0, .string ⟨#[]⟩, .slice none 0 0] : Array Value)[j]? := hx1.cells
  have hxf := hx1.free
  obtain ⟨An, cn, rfl, hrn, _⟩ := own_words hV.nulls
  have hrn1 : ReadsU W1 An (packW s.nl) := ⟨hrn.1, fun hp => by
    obtain ⟨ad, e, h⟩ := hrn.2 hp
    exact ⟨ad, e, fun j hj => (HB1.cell (World.block_lt_of_cell? w _ (h j hj))).trans (h j hj)⟩⟩
  have hm := marked_any An s.nl cn i W1 hrn1 hi
  rw [hbit] at hm
  obtain ⟨N, hN⟩ : ∃ N, N = s.nl.length := ⟨_, rfl⟩
  rw [← hN] at hc hi
  have hi0 : (0 : Int) ≤ (i : Int) := by omega
  have hi1 : (i : Int) < (N : Int) := by omega
  have hi2 : ¬ (i : Int) < 0 := by omega
  have hi3 : ¬ (N : Int) ≤ (i : Int) := by omega
  have hi4 : ¬ N ≤ i := by omega
  have HN := Aside0.mk hN
  rw [hk] at hc hv1
  obtain ⟨gi, ci, rfl, hci⟩ : ∃ gi ci, iv = .slice (some ⟨gi, 0, none⟩) s.il.length ci ∧ s.il.length ≤ ci := by
    rcases hV.ints.2 with ⟨e, h0⟩ | ⟨g, cap, cur, e, _, _, h, _⟩
    · omega
    · exact ⟨g, cap, e, h⟩
  obtain ⟨gd, cd, rfl, hcd⟩ : ∃ gd cd, dv = .slice (some ⟨gd, 0, none⟩) s.dl.length cd ∧ s.dl.length ≤ cd := by
    rcases hV.dict.2 with ⟨e, h0⟩ | ⟨g, cap, cur, e, _, _, h, _⟩
    · omega
    · exact ⟨g, cap, e, h⟩
  have hgl : gi < w.heap.size := own_lt hV.ints rfl
  have hdl2 : gd < w.heap.size := own_lt hV.dict rfl
  have hcl := World.ownsRow.cellAt hV.ints i (by omega)
  have hcl1 : w.cell? ⟨gi, i, none⟩ = some (.int .i64 (q : Int)) := by
    rw [hcl, ← hq]
    simp [numCells, List.getD, show i < s.il.length by omega]
  have hcm := World.ownsRow.cellAt hV.dict q (by omega)
  have hcm1 : w.cell? ⟨gd, q, none⟩ = some (.string (s.dl.getD q ByteArray.empty)) := by
    rw [hcm]
    simp [textCells, List.getD, hqd]
  have HCI : Aside0 (∀ W, Below w.heap.size w W → W.cell? ⟨gi, i, none⟩ = some (.int .i64 (q : Int))) := ⟨fun W h => (h.cell hgl).trans hcl1⟩
  have HCD : Aside0 (∀ W, Below w.heap.size w W → W.cell? ⟨gd, q, none⟩ = some (.string (s.dl.getD q ByteArray.empty))) := ⟨fun W h => (h.cell hdl2).trans hcm1⟩
  have hbx := hV.box.cells
  have hblt := hV.box.lt
  have hx9 : s.il.length = N := by rw [hN]; exact hil
  rw [hx9, ← hN] at hv1
  rw [hx9] at hc hbx
  generalize s.dl.getD q ByteArray.empty = y at HCD ⊢
  generalize s.dl.length = D at hqd hdl hv1 hc hbx
  have HC5 : Aside0 (∀ W, Below w.heap.size w W → W.cell? ⟨b, 5, none⟩ = some (.slice (some ⟨gd, 0, none⟩) D cd)) := ⟨fun W h => (h.cell hblt).trans (hbx 5)⟩
  have HC4 : Aside0 (∀ W, Below w.heap.size w W → W.cell? ⟨b, 4, none⟩ = some (.slice (some ⟨gi, 0, none⟩) N ci)) := ⟨fun W h => (h.cell hblt).trans (hbx 4)⟩
  have HV1 := Aside0.mk hv1
  have hb1 := hv1.lt
  have hq0 : (0 : Int) ≤ (q : Int) := by omega
  have hq1 : (q : Int) < (D : Int) := by omega
  have hD9 : (D : Int) ≤ 1000000000000 := by omega
  have hai := add_0 gi i
  have had := add_0 gd q
  clear hV hrn hrn1 hN hbit hcl hcl1 hcm hcm1 hil hx9 hci hcd hk hv1 hbx hblt hgl hdl2 hq
  go_enter Tryd.func21, Tryd.ntmps21
  go_upto_region 1 with (fail)
  rw [show w.alloc (.cells #[.int .i64 0, .bool false, .int .i64 0, .string ⟨#[]⟩, .slice none 0 0] 39) = W1 from hW1.symm]
  clear hW1
  go_upto_region 4 with (go_at_call 33; go_loud (refine hm.mono ?_))
  obtain ⟨W2, hW2⟩ : ∃ W2, W2 = W1.alloc (.cells #[.int .i64 3, .bool false, .int .i64 0, .string ⟨#[]⟩, .slice none 0 0] 39) := ⟨_, rfl⟩
  obtain ⟨b2, hb2⟩ : ∃ b2, b2 = W1.heap.size := ⟨_, rfl⟩
  rw [← hW2, ← hb2]
  have HB2 : Below w.heap.size w W2 := by rw [hW2]; exact below_more HB1 _
  have hx2 : Box W2 b2 #[.int .i64 3, .bool false, .int .i64 0, .string ⟨#[]⟩, .slice none 0 0] := by rw [hW2, hb2]; exact Box.new W1 _
  have hbw1 : w.heap.size < W1.heap.size := hx1.lt
  have hxr2 : Box W2 w.heap.size zeroC := hx1.at_ (by rw [hW2]; exact heap_alloc_old _ _ hbw1)
  have hv2 := HV1.out.at_ (W' := W2) (by rw [hW2]; exact heap_alloc_old _ _ hb1)
  have hc2 := hv2.cells
  have hf2 := hv2.free
  have hx2c := hx2.cells
  have hx2f := hx2.free
  have hxrc : ∀ j, W2.cell? ⟨w.heap.size, j, none⟩ = (#[.int .i64 0, .bool false, .int .i64 0, .string ⟨#[]⟩, .slice none 0 0] : Array Value)[j]? := hxr2.cells
  have hxrf := hxr2.free
  have hne : w.heap.size ≠ b2 := by omega
  have hne2 : b2 ≠ w.heap.size := by omega
  have hbb : w.heap.size ≤ b2 := by omega
  clear hW2 hb2 hc hf hxc hxf HB1 hv2 hx1 HV1 hb1
  go_upto_region 9 with (fail)
  refine wp_region_held_drew (S := (fun WW => Below w.heap.size w WW)) (by kernel_rfl) ?_ (fun hHeld => ?_)
  · (repeat (first | exact HB2 | exact hbb | apply below_drew | apply bset))
  refine take_in (i := 0) (v := ?v0a) rfl (by kernel_rfl) (by kernel_rfl) (by kernel_rfl) (fun _ _ _ h => h) (by rfl) ?hy0a (by assumption) ?_
  case hy0a => intro WW hSw; (try dsimp only at hSw); go_simp; try with_reducible rfl
  try simp only [Act.put, List.setIfInBounds_toArray, List.set_cons_zero, List.set_cons_succ]
  refine take_in (i := 1) (v := ?v1a) rfl (by kernel_rfl) (by kernel_rfl) (by kernel_rfl) (fun _ _ _ h => h) (by rfl) ?hy1a (by assumption) ?_
  case hy1a => intro WW hSw; (try dsimp only at hSw); go_simp; try with_reducible rfl
  try simp only [Act.put, List.setIfInBounds_toArray, List.set_cons_zero, List.set_cons_succ]
  refine take_in (i := 2) (v := ?v2a) rfl (by kernel_rfl) (by kernel_rfl) (by kernel_rfl) (fun _ _ _ h => h) (by rfl) ?hy2a (by assumption) ?_
  case hy2a => intro WW hSw; (try dsimp only at hSw); go_simp; try with_reducible rfl
  try simp only [Act.put, List.setIfInBounds_toArray, List.set_cons_zero, List.set_cons_succ]
  refine take_in (i := 3) (v := ?v3a) rfl (by kernel_rfl) (by kernel_rfl) (by kernel_rfl) (fun _ _ _ h => h) (by rfl) ?hy3a (by assumption) ?_
  case hy3a => intro WW hSw; have h5 := HC5.out WW hSw; have h4 := HC4.out WW hSw; have hi := HCI.out WW hSw; have hd := HCD.out WW hSw; go_simp; try with_reducible rfl
  try simp only [Act.put, List.setIfInBounds_toArray, List.set_cons_zero, List.set_cons_succ]
  refine take_in (i := 4) (v := ?v4a) rfl (by kernel_rfl) (by kernel_rfl) (by kernel_rfl) (fun _ _ _ h => h) (by rfl) ?hy4a (by assumption) ?_
  case hy4a => intro WW hSw; (try dsimp only at hSw); go_simp; try with_reducible rfl
  try simp only [Act.put, List.setIfInBounds_toArray, List.set_cons_zero, List.set_cons_succ]
  refine take_in (i := 5) (v := ?v5a) rfl (by kernel_rfl) (by kernel_rfl) (by kernel_rfl) (fun _ _ _ h => h) (by rfl) ?hy5a (by assumption) ?_
  case hy5a => intro WW hSw; (try dsimp only at hSw); go_simp; try with_reducible rfl
  try simp only [Act.put, List.setIfInBounds_toArray, List.set_cons_zero, List.set_cons_succ]
  refine take_in (i := 6) (v := ?v6a) rfl (by kernel_rfl) (by kernel_rfl) (by kernel_rfl) (fun _ _ _ h => h) (by rfl) ?hy6a (by assumption) ?_
  case hy6a => intro WW hSw; (try dsimp only at hSw); go_simp; try with_reducible rfl
  try simp only [Act.put, List.setIfInBounds_toArray, List.set_cons_zero, List.set_cons_succ]
  refine take_in (i := 7) (v := ?v7a) rfl (by kernel_rfl) (by kernel_rfl) (by kernel_rfl) (fun _ _ _ h => h) (by rfl) ?hy7a (by assumption) ?_
  case hy7a => intro WW hSw; have h5 := HC5.out WW hSw; have h4 := HC4.out WW hSw; have hi := HCI.out WW hSw; have hd := HCD.out WW hSw; go_simp; try with_reducible rfl
  try simp only [Act.put, List.setIfInBounds_toArray, List.set_cons_zero, List.set_cons_succ]
  refine take_in (i := 8) (v := ?v8a) rfl (by kernel_rfl) (by kernel_rfl) (by kernel_rfl) (fun _ _ _ h => h) (by rfl) ?hy8a (by assumption) ?_
  case hy8a => intro WW hSw; (try dsimp only at hSw); go_simp; try with_reducible rfl
  try simp only [Act.put, List.setIfInBounds_toArray, List.set_cons_zero, List.set_cons_succ]
  refine take_in (i := 9) (v := .pointer (some ⟨gi, i, none⟩)) rfl (by kernel_rfl) (by kernel_rfl) (by kernel_rfl) (fun _ _ _ h => h) (by rfl) ?hy9a (by assumption) ?_
  case hy9a => intro WW hSw; have hh := hai; go_simp; try with_reducible rfl
  try simp only [Act.put, List.setIfInBounds_toArray, List.set_cons_zero, List.set_cons_succ]
  refine take_in (i := 10) (v := ?v10a) rfl (by kernel_rfl) (by kernel_rfl) (by kernel_rfl) (fun _ _ _ h => h) (by rfl) ?hy10a (by assumption) ?_
  case hy10a => intro WW hSw; have h5 := HC5.out WW hSw; have h4 := HC4.out WW hSw; have hi := HCI.out WW hSw; have hd := HCD.out WW hSw; go_simp; try with_reducible rfl
  try simp only [Act.put, List.setIfInBounds_toArray, List.set_cons_zero, List.set_cons_succ]
  refine take_in (i := 11) (v := .pointer (some ⟨gd, q, none⟩)) rfl (by kernel_rfl) (by kernel_rfl) (by kernel_rfl) (fun _ _ _ h => h) (by rfl) ?hy11a (by assumption) ?_
  case hy11a => intro WW hSw; have hh := had; go_simp; try with_reducible rfl
  try simp only [Act.put, List.setIfInBounds_toArray, List.set_cons_zero, List.set_cons_succ]
  refine take_in (i := 12) (v := ?v12a) rfl (by kernel_rfl) (by kernel_rfl) (by kernel_rfl) (fun _ _ _ h => h) (by rfl) ?hy12a (by assumption) ?_
  case hy12a => intro WW hSw; have h5 := HC5.out WW hSw; have h4 := HC4.out WW hSw; have hi := HCI.out WW hSw; have hd := HCD.out WW hSw; go_simp; try with_reducible rfl
  try simp only [Act.put, List.setIfInBounds_toArray, List.set_cons_zero, List.set_cons_succ]
  refine take_in (i := 13) (v := ?v13a) rfl (by kernel_rfl) (by kernel_rfl) (by kernel_rfl) (fun _ _ _ h => h) (by rfl) ?hy13a (by assumption) ?_
  case hy13a => intro WW hSw; (try dsimp only at hSw); go_simp; try with_reducible rfl
  try simp only [Act.put, List.setIfInBounds_toArray, List.set_cons_zero, List.set_cons_succ]
  refine one_step (i := 14) (by kernel_rfl) rfl (fun K hK => ?_)
  go_simp
  refine hK.out _ _ ?_ (fun hHeld => ?_)
  · (repeat (first | exact HB2 | exact hbb | apply below_drew | apply bset))
  clear hK K
  try simp only [Act.put, List.setIfInBounds_toArray, List.set_cons_zero, List.set_cons_succ]
  refine wpAnyH_done (by kernel_rfl) ?_ _
  go_upto_region 15 with (fail)
  obtain ⟨W3, hW3⟩ : ∃ W3, W3 = (W2.setCell ⟨b2, 3, none⟩ (.string y)).drew := ⟨_, rfl⟩
  rw [← hW3]
  have HB3 : Below w.heap.size w W3 := by rw [hW3]; (repeat (first | exact HB2 | exact hbb | apply below_drew | apply bset))
  have hx3 : Box W3 b2 #[.int .i64 3, .bool false, .int .i64 0, .string y, .slice none 0 0] := by rw [hW3]; exact hx2.put 3 _
  have hxr3 : Box W3 w.heap.size zeroC := hxr2.at_ (by rw [hW3]; exact heap_setCell_other _ _ _ _ hne)
  have hx3c := hx3.cells
  have hx3f := hx3.free
  have hxrc3 : ∀ j, W3.cell? ⟨w.heap.size, j, none⟩ = (#[.int .i64 0, .bool false, .int .i64 0, .string ⟨#[]⟩, .slice none 0 0] : Array Value)[j]? := hxr3.cells
  have hxrf3 := hxr3.free
  clear hW3 hc2 hf2 hx2c hx2f hxrc hxrf HB2 hx2 hxr2
  go_wp2
  obtain ⟨W7, hW7⟩ : ∃ W7, W7 = (((((W3.setCell ⟨w.heap.size, 0, none⟩ (.int .i64 3)).setCell ⟨w.heap.size, 1, none⟩ (.bool false)).setCell ⟨w.heap.size, 2, none⟩ (.int .i64 0)).setCell ⟨w.heap.size, 3, none⟩ (.string y)).setCell ⟨w.heap.size, 4, none⟩ (.slice none 0 0)) := ⟨_, rfl⟩
  rw [← hW7]
  have HB7 : Below w.heap.size w W7 := by rw [hW7]; exact below_set (below_set (below_set (below_set (below_set HB3 (Nat.le_refl _) _) (Nat.le_refl _) _) (Nat.le_refl _) _) (Nat.le_refl _) _) (Nat.le_refl _) _
  have xr7 : Box W7 w.heap.size #[.int .i64 3, .bool false, .int .i64 0, .string y, .slice none 0 0] := by rw [hW7]; exact ((((hxr3.put 0 _).put 1 _).put 2 _).put 3 _).put 4 _
  refine bodyPost_ret (results_val rfl rfl xr7 rfl) rfl ?_
  exact ⟨rfl, HB7⟩
end Go.Proofs.YtbdbcbpcekpcoaaDoor
