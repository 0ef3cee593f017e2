/- A column's Kind, Len, Nulls, and At of numbers and of what is none. -/
import Derived.Test.YtbdbcbpcekpcoaaDoorCvApp
import Derived.Deep.LoopGhost
set_option linter.unusedVariables false
set_option linter.unusedSimpArgs false
namespace Go.Proofs.YtbdbcbpcekpcoaaDoor
open Go.RowKit Go.Maps

set_option maxRecDepth 100000 in
set_option maxHeartbeats 3200000 in
theorem len_any (F : Nat → Prop) (b : Nat) (s : VS) (w : World) (hv : VecIs w F b s) :
    Calls Tryd.prog 18 #[.pointer (some ⟨b, 0, none⟩)] w fun e w' => e = .returned (.int .i64 (s.nl.length : Int)) ∧ w' = w := by
  obtain ⟨nv, bv, iv, dv, hvv, m, hV⟩ := hv
  have hc := hV.box.cells
  have hf := hV.box.free
  generalize s.nl.length = N at hc ⊢
  clear hV
  go_enter Tryd.func18, Tryd.ntmps18
  go_wp2
  go_ret
  exact ⟨rfl, rfl⟩
set_option maxRecDepth 100000 in
set_option maxHeartbeats 3200000 in
theorem kind_any (F : Nat → Prop) (b : Nat) (s : VS) (w : World) (hv : VecIs w F b s) :
    Calls Tryd.prog 24 #[.pointer (some ⟨b, 0, none⟩)] w fun e w' => e = .returned (.int .i64 s.k) ∧ w' = w := by
  obtain ⟨nv, bv, iv, dv, hvv, m, hV⟩ := hv
  have hc := hV.box.cells
  have hf := hV.box.free
  clear hV
  go_enter Tryd.func24, Tryd.ntmps24
  go_wp2
  go_ret
  exact ⟨rfl, rfl⟩
/-- How many of a row's bits are set. -/
def cntB (l : List Bool) : Nat := (l.filter id).length
theorem cntB_take (l : List Bool) (j : Nat) (h : j < l.length) : cntB (l.take (j + 1)) = cntB (l.take j) + if l.getD j false then 1 else 0 := by
  have hg : l.getD j false = l[j] := by rw [List.getD_eq_getElem?_getD, List.getElem?_eq_getElem h]; rfl
  rw [cntB, cntB, List.take_add_one, List.getElem?_eq_getElem h, Option.toList_some, List.filter_append, List.length_append, List.filter_cons, List.filter_nil, hg]
  cases l[j] <;> rfl
set_option maxRecDepth 100000 in
set_option maxHeartbeats 3200000 in
theorem nulls_any (F : Nat → Prop) (b : Nat) (s : VS) (w : World) (hv : VecIs w F b s) (hN : s.nl.length ≤ 1000000000000) :
    Calls Tryd.prog 19 #[.pointer (some ⟨b, 0, none⟩)] w fun e w' => e = .returned (.int .i64 (cntB s.nl : Int)) ∧ w' = w := by
  obtain ⟨nv, bv, iv, dv, hvv, m, hV⟩ := hv
  have hc := hV.box.cells
  have hf := hV.box.free
  obtain ⟨A, c, rfl, hr, _⟩ := own_words hV.nulls
  obtain ⟨N, hNe⟩ : ∃ N, N = s.nl.length := ⟨_, rfl⟩
  rw [← hNe] at hc
  have hN9 : (N : Int) ≤ 1000000000000 := by omega
  have HR := Aside0.mk hr
  have HN := Aside0.mk hNe
  clear hV hr hNe hN
  go_enter Tryd.func19, Tryd.ntmps19
  go_wp2
  go_loopg [3, 9] (N + 1) (fun gg s3 s9 wr => ∃ j : Nat, j ≤ N ∧ N < gg + j ∧ s9 = .int .i64 j ∧ s3 = .int .i64 (cntB (s.nl.take j) : Int) ∧ wr = w)
  case atStart => exact ⟨0, by omega, by omega, rfl, rfl, rfl⟩
  case round =>
    obtain ⟨j, hj, hg, rfl, rfl, rfl⟩ := hrel
    by_cases hlt : j < N
    · have hlti : (j : Int) < (N : Int) := by omega
      have hnle : ¬ N ≤ j := by omega
      have hnlei : ¬ (N : Int) ≤ (j : Int) := by omega
      have hm := marked_any A s.nl c j wr HR.out (by have := HN.out; omega)
      have ht := cntB_take s.nl j (by have := HN.out; omega)
      have hcl : cntB (s.nl.take j) ≤ j := by
        have h1 : cntB (s.nl.take j) ≤ (s.nl.take j).length := List.length_filter_le _ _
        rw [List.length_take] at h1
        omega
      generalize s.nl.getD j false = x at hm ht
      generalize cntB (s.nl.take j) = y at ht hcl
      have HT := Aside0.mk ht
      clear ht
      have hj0 : (0 : Int) ≤ (j : Int) := by omega
      cases x
      · go_wp2_with (go_at_call 33; go_loud (refine hm.mono ?_))
        go_roundg (gk - 1)
        case measure => omega
        case rel => exact ⟨j + 1, by omega, by omega, by go_num, by rw [HT.out]; simp, rfl⟩
      · go_wp2_with (go_at_call 33; go_loud (refine hm.mono ?_))
        go_roundg (gk - 1)
        case measure => omega
        case rel => exact ⟨j + 1, by omega, by omega, by go_num, by rw [HT.out]; go_num, rfl⟩
    · obtain rfl : j = N := by omega
      have he : s.nl.take j = s.nl := List.take_of_length_le (by have := HN.out; omega)
      rw [he]
      go_wp2
      go_ret
      exact ⟨rfl, rfl⟩
theorem results_val {fn : Func} {tmps : Array Value} {W : World} {b : Nat} {cs : Array Value} (h : fn.results = #[.cell 4 39]) (h4 : tmps.getD 4 undef = .pointer (some ⟨b, 0, none⟩)) (hb : Box W b cs) (hc : cs.size = 5) :
    (results fn tmps).run Tryd.prog W = .ok (.agg cs) W := by
  have hi : (Tryd.prog.info? 39).map (·.size) = some cs.size := by rw [hc]; kernel_rfl
  have hl := run_loadVar_row (P := Tryd.prog) W b 39 39 cs (0, 0) _ hb Tryd.underlying39 rfl hi
  have h5 := h4
  rw [Array.getD_eq_getD_getElem?] at h5
  simp [results, h, h5, asAddr, hl, Result.andThen]
def zeroC : Array Value := #[.int .i64 0, .bool false, .int .i64 0, .string ⟨#[]⟩, .slice none 0 0]
set_option maxRecDepth 100000 in
set_option maxHeartbeats 3200000 in
theorem at_out (F : Nat → Prop) (b : Nat) (s : VS) (z : Int) (w : World) (hv : VecIs w F b s) (hz : z < 0 ∨ (s.nl.length : Int) ≤ z) :
    Calls Tryd.prog 21 #[.pointer (some ⟨b, 0, none⟩), .int .i64 z] w fun e w' => e = .returned (.agg zeroC) ∧ Below w.heap.size w w' := by
  obtain ⟨nv, bv, iv, dv, hvv, m, hV⟩ := hv
  obtain ⟨W1, hW1⟩ : ∃ W1, W1 = w.alloc (.cells zeroC 39) := ⟨_, rfl⟩
  have hbw := hV.box.lt
  have hv1 : VecB W1 b _ := hV.box.at_ (by rw [hW1]; exact heap_alloc_old w _ hbw)
  have hx1 : Box W1 w.heap.size zeroC := by rw [hW1]; exact Box.new w _
  have HB1 : Below w.heap.size w W1 := by rw [hW1]; exact below_more (Below.refl _ _) _
  have hc := hv1.cells
  have hf := hv1.free
  have hxc : ∀ j, W1.cell? ⟨w.heap.size, j, none⟩ = (#[.int .i64 0, .bool false, .int .i64 0, .string ⟨#[]⟩, .slice none 0 0] : Array Value)[j]? := hx1.cells
  have hxf := hx1.free
  generalize s.nl.length = N at hc hz
  clear hV hv1
  rcases hz with hz | hz
  · skip
    go_enter Tryd.func21, Tryd.ntmps21
    go_upto_region 1 with (fail)
    rw [show w.alloc (.cells #[.int .i64 0, .bool false, .int .i64 0, .string ⟨#[]⟩, .slice none 0 0] 39) = W1 from hW1.symm]
    clear hW1
    go_wp2
    obtain ⟨W7, hW7⟩ : ∃ W7, W7 = (((((W1.setCell ⟨w.heap.size, 0, none⟩ (.int .i64 0)).setCell ⟨w.heap.size, 1, none⟩ (.bool false)).setCell ⟨w.heap.size, 2, none⟩ (.int .i64 0)).setCell ⟨w.heap.size, 3, none⟩ (.string ⟨#[]⟩)).setCell ⟨w.heap.size, 4, none⟩ (.slice none 0 0)) := ⟨_, rfl⟩
    rw [← hW7]
    have HB7 : Below w.heap.size w W7 := by rw [hW7]; exact below_set (below_set (below_set (below_set (below_set HB1 (Nat.le_refl _) _) (Nat.le_refl _) _) (Nat.le_refl _) _) (Nat.le_refl _) _) (Nat.le_refl _) _
    have xr7 : Box W7 w.heap.size #[.int .i64 0, .bool false, .int .i64 0, .string ⟨#[]⟩, .slice none 0 0] := by rw [hW7]; exact ((((hx1.put 0 _).put 1 _).put 2 _).put 3 _).put 4 _
    refine bodyPost_ret (results_val rfl rfl xr7 rfl) rfl ?_
    exact ⟨rfl, HB7⟩
  · have hz0 : ¬ z < 0 := by omega
    have hz1 : 0 ≤ z := by omega
    have hz2 : ¬ z < (N : Int) := by omega
    go_enter Tryd.func21, Tryd.ntmps21
    go_upto_region 1 with (fail)
    rw [show w.alloc (.cells #[.int .i64 0, .bool false, .int .i64 0, .string ⟨#[]⟩, .slice none 0 0] 39) = W1 from hW1.symm]
    clear hW1
    go_wp2
    all_goals skip
    obtain ⟨W7, hW7⟩ : ∃ W7, W7 = (((((W1.setCell ⟨w.heap.size, 0, none⟩ (.int .i64 0)).setCell ⟨w.heap.size, 1, none⟩ (.bool false)).setCell ⟨w.heap.size, 2, none⟩ (.int .i64 0)).setCell ⟨w.heap.size, 3, none⟩ (.string ⟨#[]⟩)).setCell ⟨w.heap.size, 4, none⟩ (.slice none 0 0)) := ⟨_, rfl⟩
    rw [← hW7]
    have HB7 : Below w.heap.size w W7 := by rw [hW7]; exact below_set (below_set (below_set (below_set (below_set HB1 (Nat.le_refl _) _) (Nat.le_refl _) _) (Nat.le_refl _) _) (Nat.le_refl _) _) (Nat.le_refl _) _
    have xr7 : Box W7 w.heap.size #[.int .i64 0, .bool false, .int .i64 0, .string ⟨#[]⟩, .slice none 0 0] := by rw [hW7]; exact ((((hx1.put 0 _).put 1 _).put 2 _).put 3 _).put 4 _
    refine bodyPost_ret (results_val rfl rfl xr7 rfl) rfl ?_
    exact ⟨rfl, HB7⟩
set_option maxRecDepth 100000 in
set_option maxHeartbeats 3200000 in
theorem at_null (F : Nat → Prop) (b : Nat) (s : VS) (i : Nat) (w : World) (hv : VecIs w F b s) (hi : i < s.nl.length) (hbit : s.nl.getD i false = true) (hN9 : s.nl.length ≤ 1000000000000) :
    Calls Tryd.prog 21 #[.pointer (some ⟨b, 0, none⟩), .int .i64 (i : Int)] w fun e w' => e = .returned (.agg zeroC) ∧ Below w.heap.size w w' := by
  obtain ⟨nv, bv, iv, dv, hvv, m, hV⟩ := hv
  obtain ⟨W1, hW1⟩ : ∃ W1, W1 = w.alloc (.cells zeroC 39) := ⟨_, rfl⟩
  have hbw := hV.box.lt
  have hv1 : VecB W1 b _ := hV.box.at_ (by rw [hW1]; exact heap_alloc_old w _ hbw)
  have hx1 : Box W1 w.heap.size zeroC := by rw [hW1]; exact Box.new w _
  have HB1 : Below w.heap.size w W1 := by rw [hW1]; exact below_more (Below.refl _ _) _
  have hc := hv1.cells
  have hf := hv1.free
  have hxc : ∀ j, W1.cell? ⟨w.heap.size, j, none⟩ = (#[.int .i64 0, .bool false, .int .i64 0, .string ⟨#[]⟩, .slice none 0 0] : Array Value)[j]? := hx1.cells
  have hxf := hx1.free
  obtain ⟨An, cn, rfl, hrn, _⟩ := own_words hV.nulls
  have hrn1 : ReadsU W1 An (packW s.nl) := ⟨hrn.1, fun hp => by
    obtain ⟨ad, e, h⟩ := hrn.2 hp
    exact ⟨ad, e, fun j hj => (HB1.cell (World.block_lt_of_cell? w _ (h j hj))).trans (h j hj)⟩⟩
  have hm := marked_any An s.nl cn i W1 hrn1 hi
  rw [hbit] at hm
  obtain ⟨N, hN⟩ : ∃ N, N = s.nl.length := ⟨_, rfl⟩
  rw [← hN] at hc hi
  have hi0 : (0 : Int) ≤ (i : Int) := by omega
  have hi1 : (i : Int) < (N : Int) := by omega
  have hi2 : ¬ (i : Int) < 0 := by omega
  have hi3 : ¬ (N : Int) ≤ (i : Int) := by omega
  have hi4 : ¬ N ≤ i := by omega
  have HN := Aside0.mk hN
  clear hV hv1 hrn hrn1 hN hbit
  go_enter Tryd.func21, Tryd.ntmps21
  go_upto_region 1 with (fail)
  rw [show w.alloc (.cells #[.int .i64 0, .bool false, .int .i64 0, .string ⟨#[]⟩, .slice none 0 0] 39) = W1 from hW1.symm]
  clear hW1
  go_wp2_with (go_at_call 33; go_loud (refine hm.mono ?_))
  obtain ⟨W7, hW7⟩ : ∃ W7, W7 = (((((W1.setCell ⟨w.heap.size, 0, none⟩ (.int .i64 0)).setCell ⟨w.heap.size, 1, none⟩ (.bool false)).setCell ⟨w.heap.size, 2, none⟩ (.int .i64 0)).setCell ⟨w.heap.size, 3, none⟩ (.string ⟨#[]⟩)).setCell ⟨w.heap.size, 4, none⟩ (.slice none 0 0)) := ⟨_, rfl⟩
  rw [← hW7]
  have HB7 : Below w.heap.size w W7 := by rw [hW7]; exact below_set (below_set (below_set (below_set (below_set HB1 (Nat.le_refl _) _) (Nat.le_refl _) _) (Nat.le_refl _) _) (Nat.le_refl _) _) (Nat.le_refl _) _
  have xr7 : Box W7 w.heap.size #[.int .i64 0, .bool false, .int .i64 0, .string ⟨#[]⟩, .slice none 0 0] := by rw [hW7]; exact ((((hx1.put 0 _).put 1 _).put 2 _).put 3 _).put 4 _
  refine bodyPost_ret (results_val rfl rfl xr7 rfl) rfl ?_
  exact ⟨rfl, HB7⟩
set_option maxRecDepth 100000 in
set_option maxHeartbeats 3200000 in
theorem at_int_2 (F : Nat → Prop) (b : Nat) (s : VS) (i : Nat) (w : World) (hv : VecIs w F b s) (hi : i < s.nl.length) (hbit : s.nl.getD i false = false) (hN9 : s.nl.length ≤ 1000000000000) (hk : s.k = 2) (hil : s.il.length = s.nl.length) :
    Calls Tryd.prog 21 #[.pointer (some ⟨b, 0, none⟩), .int .i64 (i : Int)] w fun e w' => e = .returned (.agg #[.int .i64 2, .bool false, .int .i64 (s.il.getD i 0), .string ⟨#[]⟩, .slice none 0 0]) ∧ Below w.heap.size w w' := by
  obtain ⟨nv, bv, iv, dv, hvv, m, hV⟩ := hv
  obtain ⟨W1, hW1⟩ : ∃ W1, W1 = w.alloc (.cells zeroC 39) := ⟨_, rfl⟩
  have hbw := hV.box.lt
  have hv1 : VecB W1 b _ := hV.box.at_ (by rw [hW1]; exact heap_alloc_old w _ hbw)
  have hx1 : Box W1 w.heap.size zeroC := by rw [hW1]; exact Box.new w _
  have HB1 : Below w.heap.size w W1 := by rw [hW1]; exact below_more (Below.refl _ _) _
  have hc := hv1.cells
  have hf := hv1.free
  have hxc : ∀ j, W1.cell? ⟨w.heap.size, j, none⟩ = (#[.int .i64 0, .bool false, .int .i64 0, .string ⟨#[]⟩, .slice none 0 0] : Array Value)[j]? := hx1.cells
  have hxf := hx1.free
  obtain ⟨An, cn, rfl, hrn, _⟩ := own_words hV.nulls
  have hrn1 : ReadsU W1 An (packW s.nl) := ⟨hrn.1, fun hp => by
    obtain ⟨ad, e, h⟩ := hrn.2 hp
    exact ⟨ad, e, fun j hj => (HB1.cell (World.block_lt_of_cell? w _ (h j hj))).trans (h j hj)⟩⟩
  have hm := marked_any An s.nl cn i W1 hrn1 hi
  rw [hbit] at hm
  obtain ⟨N, hN⟩ : ∃ N, N = s.nl.length := ⟨_, rfl⟩
  rw [← hN] at hc hi
  have hi0 : (0 : Int) ≤ (i : Int) := by omega
  have hi1 : (i : Int) < (N : Int) := by omega
  have hi2 : ¬ (i : Int) < 0 := by omega
  have hi3 : ¬ (N : Int) ≤ (i : Int) := by omega
  have hi4 : ¬ N ≤ i := by omega
  have HN := Aside0.mk hN
  rw [hk] at hc hv1
  obtain ⟨gi, ci, rfl, hci⟩ : ∃ gi ci, iv = .slice (some ⟨gi, 0, none⟩) s.il.length ci ∧ s.il.length ≤ ci := by
    rcases hV.ints.2 with ⟨e, h0⟩ | ⟨g, cap, cur, e, _, _, h, _⟩
    · omega
    · exact ⟨g, cap, e, h⟩
  have hcl := World.ownsRow.cellAt hV.ints i (by omega)
  have hgl : gi < w.heap.size := own_lt hV.ints rfl
  have hcl1 : w.cell? ⟨gi, i, none⟩ = some (.int .i64 (s.il.getD i 0)) := by
    rw [hcl]
    simp [numCells, List.getD, show i < s.il.length by omega]
  have HCL : Aside0 (∀ W, Below w.heap.size w W → W.cell? ((⟨gi, 0, none⟩ : Addr).add i) = some (.int .i64 (s.il.getD i 0))) := ⟨fun W h => by
    have e : (⟨gi, 0, none⟩ : Addr).add i = ⟨gi, i, none⟩ := by
      unfold Addr.add
      split
      · rename_i h; rw [h]
      · simp
    rw [e]
    exact (h.cell hgl).trans hcl1⟩
  have hx9 : s.il.length = N := by rw [hN]; exact hil
  rw [hx9, ← hN] at hv1
  rw [hx9] at hc
  generalize s.il.getD i 0 = y at HCL ⊢
  have HV1 := Aside0.mk hv1
  have hb1 := hv1.lt
  clear hV hrn hrn1 hN hbit hcl hcl1 hil hx9 hci hk hv1
  go_enter Tryd.func21, Tryd.ntmps21
  go_upto_region 1 with (fail)
  rw [show w.alloc (.cells #[.int .i64 0, .bool false, .int .i64 0, .string ⟨#[]⟩, .slice none 0 0] 39) = W1 from hW1.symm]
  clear hW1
  go_upto_region 4 with (go_at_call 33; go_loud (refine hm.mono ?_))
  obtain ⟨W2, hW2⟩ : ∃ W2, W2 = W1.alloc (.cells #[.int .i64 2, .bool false, .int .i64 0, .string ⟨#[]⟩, .slice none 0 0] 39) := ⟨_, rfl⟩
  obtain ⟨b2, hb2⟩ : ∃ b2, b2 = W1.heap.size := ⟨_, rfl⟩
  rw [← hW2, ← hb2]
  have HB2 : Below w.heap.size w W2 := by rw [hW2]; exact below_more HB1 _
  have hcl2 := HCL.out W2 HB2
  have haq : (⟨gi, 0, none⟩ : Addr).add i = ⟨gi, i, none⟩ := by
    unfold Addr.add
    split
    · rename_i h; rw [h]
    · simp
  rw [haq] at hcl2
  have hcl3 := hcl2
  rw [← haq] at hcl3
  have hx2 : Box W2 b2 #[.int .i64 2, .bool false, .int .i64 0, .string ⟨#[]⟩, .slice none 0 0] := by rw [hW2, hb2]; exact Box.new W1 _
  have hbw1 : w.heap.size < W1.heap.size := hx1.lt
  have hxr2 : Box W2 w.heap.size zeroC := hx1.at_ (by rw [hW2]; exact heap_alloc_old _ _ hbw1)
  have hv2 := HV1.out.at_ (W' := W2) (by rw [hW2]; exact heap_alloc_old _ _ hb1)
  have hc2 := hv2.cells
  have hf2 := hv2.free
  have hx2c := hx2.cells
  have hx2f := hx2.free
  have hxrc : ∀ j, W2.cell? ⟨w.heap.size, j, none⟩ = (#[.int .i64 0, .bool false, .int .i64 0, .string ⟨#[]⟩, .slice none 0 0] : Array Value)[j]? := hxr2.cells
  have hxrf := hxr2.free
  have hne : w.heap.size ≠ b2 := by omega
  have hne2 : b2 ≠ w.heap.size := by omega
  have hbb : w.heap.size ≤ b2 := by omega
  clear hW2 hb2 hc hf hxc hxf HB1 hv2 hx1 HV1 hb1
  go_upto_region 15 with (fail)
  obtain ⟨W3, hW3⟩ : ∃ W3, W3 = W2.setCell ⟨b2, 2, none⟩ (.int .i64 y) := ⟨_, rfl⟩
  rw [← hW3]
  have HB3 : Below w.heap.size w W3 := by rw [hW3]; exact below_set HB2 hbb _
  have hx3 : Box W3 b2 #[.int .i64 2, .bool false, .int .i64 y, .string ⟨#[]⟩, .slice none 0 0] := by rw [hW3]; exact hx2.put 2 _
  have hxr3 : Box W3 w.heap.size zeroC := hxr2.at_ (by rw [hW3]; exact heap_setCell_other _ _ _ _ hne)
  have hx3c := hx3.cells
  have hx3f := hx3.free
  have hxrc3 : ∀ j, W3.cell? ⟨w.heap.size, j, none⟩ = (#[.int .i64 0, .bool false, .int .i64 0, .string ⟨#[]⟩, .slice none 0 0] : Array Value)[j]? := hxr3.cells
  have hxrf3 := hxr3.free
  clear hW3 hc2 hf2 hx2c hx2f hxrc hxrf HB2 hcl2 hx2 hxr2
  go_wp2
  obtain ⟨W7, hW7⟩ : ∃ W7, W7 = (((((W3.setCell ⟨w.heap.size, 0, none⟩ (.int .i64 2)).setCell ⟨w.heap.size, 1, none⟩ (.bool false)).setCell ⟨w.heap.size, 2, none⟩ (.int .i64 y)).setCell ⟨w.heap.size, 3, none⟩ (.string ⟨#[]⟩)).setCell ⟨w.heap.size, 4, none⟩ (.slice none 0 0)) := ⟨_, rfl⟩
  rw [← hW7]
  have HB7 : Below w.heap.size w W7 := by rw [hW7]; exact below_set (below_set (below_set (below_set (below_set HB3 (Nat.le_refl _) _) (Nat.le_refl _) _) (Nat.le_refl _) _) (Nat.le_refl _) _) (Nat.le_refl _) _
  have xr7 : Box W7 w.heap.size #[.int .i64 2, .bool false, .int .i64 y, .string ⟨#[]⟩, .slice none 0 0] := by rw [hW7]; exact ((((hxr3.put 0 _).put 1 _).put 2 _).put 3 _).put 4 _
  refine bodyPost_ret (results_val rfl rfl xr7 rfl) rfl ?_
  exact ⟨rfl, HB7⟩
set_option maxRecDepth 100000 in
set_option maxHeartbeats 3200000 in
theorem at_int_4 (F : Nat → Prop) (b : Nat) (s : VS) (i : Nat) (w : World) (hv : VecIs w F b s) (hi : i < s.nl.length) (hbit : s.nl.getD i false = false) (hN9 : s.nl.length ≤ 1000000000000) (hk : s.k = 4) (hil : s.il.length = s.nl.length) :
    Calls Tryd.prog 21 #[.pointer (some ⟨b, 0, none⟩), .int .i64 (i : Int)] w fun e w' => e = .returned (.agg #[.int .i64 4, .bool false, .int .i64 (s.il.getD i 0), .string ⟨#[]⟩, .slice none 0 0]) ∧ Below w.heap.size w w' := by
  obtain ⟨nv, bv, iv, dv, hvv, m, hV⟩ := hv
  obtain ⟨W1, hW1⟩ : ∃ W1, W1 = w.alloc (.cells zeroC 39) := ⟨_, rfl⟩
  have hbw := hV.box.lt
  have hv1 : VecB W1 b _ := hV.box.at_ (by rw [hW1]; exact heap_alloc_old w _ hbw)
  have hx1 : Box W1 w.heap.size zeroC := by rw [hW1]; exact Box.new w _
  have HB1 : Below w.heap.size w W1 := by rw [hW1]; exact below_more (Below.refl _ _) _
  have hc := hv1.cells
  have hf := hv1.free
  have hxc : ∀ j, W1.cell? ⟨w.heap.size, j, none⟩ = (#[.int .i64 0, .bool false, .int .i64 0, .string ⟨#[]⟩, .slice none 0 0] : Array Value)[j]? := hx1.cells
  have hxf := hx1.free
  obtain ⟨An, cn, rfl, hrn, _⟩ := own_words hV.nulls
  have hrn1 : ReadsU W1 An (packW s.nl) := ⟨hrn.1, fun hp => by
    obtain ⟨ad, e, h⟩ := hrn.2 hp
    exact ⟨ad, e, fun j hj => (HB1.cell (World.block_lt_of_cell? w _ (h j hj))).trans (h j hj)⟩⟩
  have hm := marked_any An s.nl cn i W1 hrn1 hi
  rw [hbit] at hm
  obtain ⟨N, hN⟩ : ∃ N, N = s.nl.length := ⟨_, rfl⟩
  rw [← hN] at hc hi
  have hi0 : (0 : Int) ≤ (i : Int) := by omega
  have hi1 : (i : Int) < (N : Int) := by omega
  have hi2 : ¬ (i : Int) < 0 := by omega
  have hi3 : ¬ (N : Int) ≤ (i : Int) := by omega
  have hi4 : ¬ N ≤ i := by omega
  have HN := Aside0.mk hN
  rw [hk] at hc hv1
  obtain ⟨gi, ci, rfl, hci⟩ : ∃ gi ci, iv = .slice (some ⟨gi, 0, none⟩) s.il.length ci ∧ s.il.length ≤ ci := by
    rcases hV.ints.2 with ⟨e, h0⟩ | ⟨g, cap, cur, e, _, _, h, _⟩
    · omega
    · exact ⟨g, cap, e, h⟩
  have hcl := World.ownsRow.cellAt hV.ints i (by omega)
  have hgl : gi < w.heap.size := own_lt hV.ints rfl
  have hcl1 : w.cell? ⟨gi, i, none⟩ = some (.int .i64 (s.il.getD i 0)) := by
    rw [hcl]
    simp [numCells, List.getD, show i < s.il.length by omega]
  have HCL : Aside0 (∀ W, Below w.heap.size w W → W.cell? ((⟨gi, 0, none⟩ : Addr).add i) = some (.int .i64 (s.il.getD i 0))) := ⟨fun W h => by
    have e : (⟨gi, 0, none⟩ : Addr).add i = ⟨gi, i, none⟩ := by
      unfold Addr.add
      split
      · rename_i h; rw [h]
      · simp
    rw [e]
    exact (h.cell hgl).trans hcl1⟩
  have hx9 : s.il.length = N := by rw [hN]; exact hil
  rw [hx9, ← hN] at hv1
  rw [hx9] at hc
  generalize s.il.getD i 0 = y at HCL ⊢
  have HV1 := Aside0.mk hv1
  have hb1 := hv1.lt
  clear hV hrn hrn1 hN hbit hcl hcl1 hil hx9 hci hk hv1
  go_enter Tryd.func21, Tryd.ntmps21
  go_upto_region 1 with (fail)
  rw [show w.alloc (.cells #[.int .i64 0, .bool false, .int .i64 0, .string ⟨#[]⟩, .slice none 0 0] 39) = W1 from hW1.symm]
  clear hW1
  go_upto_region 4 with (go_at_call 33; go_loud (refine hm.mono ?_))
  obtain ⟨W2, hW2⟩ : ∃ W2, W2 = W1.alloc (.cells #[.int .i64 4, .bool false, .int .i64 0, .string ⟨#[]⟩, .slice none 0 0] 39) := ⟨_, rfl⟩
  obtain ⟨b2, hb2⟩ : ∃ b2, b2 = W1.heap.size := ⟨_, rfl⟩
  rw [← hW2, ← hb2]
  have HB2 : Below w.heap.size w W2 := by rw [hW2]; exact below_more HB1 _
  have hcl2 := HCL.out W2 HB2
  have haq : (⟨gi, 0, none⟩ : Addr).add i = ⟨gi, i, none⟩ := by
    unfold Addr.add
    split
    · rename_i h; rw [h]
    · simp
  rw [haq] at hcl2
  have hcl3 := hcl2
  rw [← haq] at hcl3
  have hx2 : Box W2 b2 #[.int .i64 4, .bool false, .int .i64 0, .string ⟨#[]⟩, .slice none 0 0] := by rw [hW2, hb2]; exact Box.new W1 _
  have hbw1 : w.heap.size < W1.heap.size := hx1.lt
  have hxr2 : Box W2 w.heap.size zeroC := hx1.at_ (by rw [hW2]; exact heap_alloc_old _ _ hbw1)
  have hv2 := HV1.out.at_ (W' := W2) (by rw [hW2]; exact heap_alloc_old _ _ hb1)
  have hc2 := hv2.cells
  have hf2 := hv2.free
  have hx2c := hx2.cells
  have hx2f := hx2.free
  have hxrc : ∀ j, W2.cell? ⟨w.heap.size, j, none⟩ = (#[.int .i64 0, .bool false, .int .i64 0, .string ⟨#[]⟩, .slice none 0 0] : Array Value)[j]? := hxr2.cells
  have hxrf := hxr2.free
  have hne : w.heap.size ≠ b2 := by omega
  have hne2 : b2 ≠ w.heap.size := by omega
  have hbb : w.heap.size ≤ b2 := by omega
  clear hW2 hb2 hc hf hxc hxf HB1 hv2 hx1 HV1 hb1
  go_upto_region 15 with (fail)
  obtain ⟨W3, hW3⟩ : ∃ W3, W3 = W2.setCell ⟨b2, 2, none⟩ (.int .i64 y) := ⟨_, rfl⟩
  rw [← hW3]
  have HB3 : Below w.heap.size w W3 := by rw [hW3]; exact below_set HB2 hbb _
  have hx3 : Box W3 b2 #[.int .i64 4, .bool false, .int .i64 y, .string ⟨#[]⟩, .slice none 0 0] := by rw [hW3]; exact hx2.put 2 _
  have hxr3 : Box W3 w.heap.size zeroC := hxr2.at_ (by rw [hW3]; exact heap_setCell_other _ _ _ _ hne)
  have hx3c := hx3.cells
  have hx3f := hx3.free
  have hxrc3 : ∀ j, W3.cell? ⟨w.heap.size, j, none⟩ = (#[.int .i64 0, .bool false, .int .i64 0, .string ⟨#[]⟩, .slice none 0 0] : Array Value)[j]? := hxr3.cells
  have hxrf3 := hxr3.free
  clear hW3 hc2 hf2 hx2c hx2f hxrc hxrf HB2 hcl2 hx2 hxr2
  go_wp2
  obtain ⟨W7, hW7⟩ : ∃ W7, W7 = (((((W3.setCell ⟨w.heap.size, 0, none⟩ (.int .i64 4)).setCell ⟨w.heap.size, 1, none⟩ (.bool false)).setCell ⟨w.heap.size, 2, none⟩ (.int .i64 y)).setCell ⟨w.heap.size, 3, none⟩ (.string ⟨#[]⟩)).setCell ⟨w.heap.size, 4, none⟩ (.slice none 0 0)) := ⟨_, rfl⟩
  rw [← hW7]
  have HB7 : Below w.heap.size w W7 := by rw [hW7]; exact below_set (below_set (below_set (below_set (below_set HB3 (Nat.le_refl _) _) (Nat.le_refl _) _) (Nat.le_refl _) _) (Nat.le_refl _) _) (Nat.le_refl _) _
  have xr7 : Box W7 w.heap.size #[.int .i64 4, .bool false, .int .i64 y, .string ⟨#[]⟩, .slice none 0 0] := by rw [hW7]; exact ((((hxr3.put 0 _).put 1 _).put 2 _).put 3 _).put 4 _
  refine bodyPost_ret (results_val rfl rfl xr7 rfl) rfl ?_
  exact ⟨rfl, HB7⟩
set_option maxRecDepth 100000 in
set_option maxHeartbeats 3200000 in
theorem at_int_5 (F : Nat → Prop) (b : Nat) (s : VS) (i : Nat) (w : World) (hv : VecIs w F b s) (hi : i < s.nl.length) (hbit : s.nl.getD i false = false) (hN9 : s.nl.length ≤ 1000000000000) (hk : s.k = 5) (hil : s.il.length = s.nl.length) :
    Calls Tryd.prog 21 #[.pointer (some ⟨b, 0, none⟩), .int .i64 (i : Int)] w fun e w' => e = .returned (.agg #[.int .i64 5, .bool false, .int .i64 (s.il.getD i 0), .string ⟨#[]⟩, .slice none 0 0]) ∧ Below w.heap.size w w' := by
  obtain ⟨nv, bv, iv, dv, hvv, m, hV⟩ := hv
  obtain ⟨W1, hW1⟩ : ∃ W1, W1 = w.alloc (.cells zeroC 39) := ⟨_, rfl⟩
  have hbw := hV.box.lt
  have hv1 : VecB W1 b _ := hV.box.at_ (by rw [hW1]; exact heap_alloc_old w _ hbw)
  have hx1 : Box W1 w.heap.size zeroC := by rw [hW1]; exact Box.new w _
  have HB1 : Below w.heap.size w W1 := by rw [hW1]; exact below_more (Below.refl _ _) _
  have hc := hv1.cells
  have hf := hv1.free
  have hxc : ∀ j, W1.cell? ⟨w.heap.size, j, none⟩ = (#[.int .i64 0, .bool false, .int .i64 0, .string ⟨#[]⟩, .slice none 0 0] : Array Value)[j]? := hx1.cells
  have hxf := hx1.free
  obtain ⟨An, cn, rfl, hrn, _⟩ := own_words hV.nulls
  have hrn1 : ReadsU W1 An (packW s.nl) := ⟨hrn.1, fun hp => by
    obtain ⟨ad, e, h⟩ := hrn.2 hp
    exact ⟨ad, e, fun j hj => (HB1.cell (World.block_lt_of_cell? w _ (h j hj))).trans (h j hj)⟩⟩
  have hm := marked_any An s.nl cn i W1 hrn1 hi
  rw [hbit] at hm
  obtain ⟨N, hN⟩ : ∃ N, N = s.nl.length := ⟨_, rfl⟩
  rw [← hN] at hc hi
  have hi0 : (0 : Int) ≤ (i : Int) := by omega
  have hi1 : (i : Int) < (N : Int) := by omega
  have hi2 : ¬ (i : Int) < 0 := by omega
  have hi3 : ¬ (N : Int) ≤ (i : Int) := by omega
  have hi4 : ¬ N ≤ i := by omega
  have HN := Aside0.mk hN
  rw [hk] at hc hv1
  obtain ⟨gi, ci, rfl, hci⟩ : ∃ gi ci, iv = .slice (some ⟨gi, 0, none⟩) s.il.length ci ∧ s.il.length ≤ ci := by
    rcases hV.ints.2 with ⟨e, h0⟩ | ⟨g, cap, cur, e, _, _, h, _⟩
    · omega
    · exact ⟨g, cap, e, h⟩
  have hcl := World.ownsRow.cellAt hV.ints i (by omega)
  have hgl : gi < w.heap.size := own_lt hV.ints rfl
  have hcl1 : w.cell? ⟨gi, i, none⟩ = some (.int .i64 (s.il.getD i 0)) := by
    rw [hcl]
    simp [numCells, List.getD, show i < s.il.length by omega]
  have HCL : Aside0 (∀ W, Below w.heap.size w W → W.cell? ((⟨gi, 0, none⟩ : Addr).add i) = some (.int .i64 (s.il.getD i 0))) := ⟨fun W h => by
    have e : (⟨gi, 0, none⟩ : Addr).add i = ⟨gi, i, none⟩ := by
      unfold Addr.add
      split
      · rename_i h; rw [h]
      · simp
    rw [e]
    exact (h.cell hgl).trans hcl1⟩
  have hx9 : s.il.length = N := by rw [hN]; exact hil
  rw [hx9, ← hN] at hv1
  rw [hx9] at hc
  generalize s.il.getD i 0 = y at HCL ⊢
  have HV1 := Aside0.mk hv1
  have hb1 := hv1.lt
  clear hV hrn hrn1 hN hbit hcl hcl1 hil hx9 hci hk hv1
  go_enter Tryd.func21, Tryd.ntmps21
  go_upto_region 1 with (fail)
  rw [show w.alloc (.cells #[.int .i64 0, .bool false, .int .i64 0, .string ⟨#[]⟩, .slice none 0 0] 39) = W1 from hW1.symm]
  clear hW1
  go_upto_region 4 with (go_at_call 33; go_loud (refine hm.mono ?_))
  obtain ⟨W2, hW2⟩ : ∃ W2, W2 = W1.alloc (.cells #[.int .i64 5, .bool false, .int .i64 0, .string ⟨#[]⟩, .slice none 0 0] 39) := ⟨_, rfl⟩
  obtain ⟨b2, hb2⟩ : ∃ b2, b2 = W1.heap.size := ⟨_, rfl⟩
  rw [← hW2, ← hb2]
  have HB2 : Below w.heap.size w W2 := by rw [hW2]; exact below_more HB1 _
  have hcl2 := HCL.out W2 HB2
  have haq : (⟨gi, 0, none⟩ : Addr).add i = ⟨gi, i, none⟩ := by
    unfold Addr.add
    split
    · rename_i h; rw [h]
    · simp
  rw [haq] at hcl2
  have hcl3 := hcl2
  rw [← haq] at hcl3
  have hx2 : Box W2 b2 #[.int .i64 5, .bool false, .int .i64 0, .string ⟨#[]⟩, .slice none 0 0] := by rw [hW2, hb2]; exact Box.new W1 _
  have hbw1 : w.heap.size < W1.heap.size := hx1.lt
  have hxr2 : Box W2 w.heap.size zeroC := hx1.at_ (by rw [hW2]; exact heap_alloc_old _ _ hbw1)
  have hv2 := HV1.out.at_ (W' := W2) (by rw [hW2]; exact heap_alloc_old _ _ hb1)
  have hc2 := hv2.cells
  have hf2 := hv2.free
  have hx2c := hx2.cells
  have hx2f := hx2.free
  have hxrc : ∀ j, W2.cell? ⟨w.heap.size, j, none⟩ = (#[.int .i64 0, .bool false, .int .i64 0, .string ⟨#[]⟩, .slice none 0 0] : Array Value)[j]? := hxr2.cells
  have hxrf := hxr2.free
  have hne : w.heap.size ≠ b2 := by omega
  have hne2 : b2 ≠ w.heap.size := by omega
  have hbb : w.heap.size ≤ b2 := by omega
  clear hW2 hb2 hc hf hxc hxf HB1 hv2 hx1 HV1 hb1
  go_upto_region 15 with (fail)
  obtain ⟨W3, hW3⟩ : ∃ W3, W3 = W2.setCell ⟨b2, 2, none⟩ (.int .i64 y) := ⟨_, rfl⟩
  rw [← hW3]
  have HB3 : Below w.heap.size w W3 := by rw [hW3]; exact below_set HB2 hbb _
  have hx3 : Box W3 b2 #[.int .i64 5, .bool false, .int .i64 y, .string ⟨#[]⟩, .slice none 0 0] := by rw [hW3]; exact hx2.put 2 _
  have hxr3 : Box W3 w.heap.size zeroC := hxr2.at_ (by rw [hW3]; exact heap_setCell_other _ _ _ _ hne)
  have hx3c := hx3.cells
  have hx3f := hx3.free
  have hxrc3 : ∀ j, W3.cell? ⟨w.heap.size, j, none⟩ = (#[.int .i64 0, .bool false, .int .i64 0, .string ⟨#[]⟩, .slice none 0 0] : Array Value)[j]? := hxr3.cells
  have hxrf3 := hxr3.free
  clear hW3 hc2 hf2 hx2c hx2f hxrc hxrf HB2 hcl2 hx2 hxr2
  go_wp2
  obtain ⟨W7, hW7⟩ : ∃ W7, W7 = (((((W3.setCell ⟨w.heap.size, 0, none⟩ (.int .i64 5)).setCell ⟨w.heap.size, 1, none⟩ (.bool false)).setCell ⟨w.heap.size, 2, none⟩ (.int .i64 y)).setCell ⟨w.heap.size, 3, none⟩ (.string ⟨#[]⟩)).setCell ⟨w.heap.size, 4, none⟩ (.slice none 0 0)) := ⟨_, rfl⟩
  rw [← hW7]
  have HB7 : Below w.heap.size w W7 := by rw [hW7]; exact below_set (below_set (below_set (below_set (below_set HB3 (Nat.le_refl _) _) (Nat.le_refl _) _) (Nat.le_refl _) _) (Nat.le_refl _) _) (Nat.le_refl _) _
  have xr7 : Box W7 w.heap.size #[.int .i64 5, .bool false, .int .i64 y, .string ⟨#[]⟩, .slice none 0 0] := by rw [hW7]; exact ((((hxr3.put 0 _).put 1 _).put 2 _).put 3 _).put 4 _
  refine bodyPost_ret (results_val rfl rfl xr7 rfl) rfl ?_
  exact ⟨rfl, HB7⟩
theorem at_int (F : Nat → Prop) (b : Nat) (s : VS) (i : Nat) (w : World) (hv : VecIs w F b s) (hi : i < s.nl.length) (hbit : s.nl.getD i false = false) (hN9 : s.nl.length ≤ 1000000000000) (hk : s.k = 2 ∨ s.k = 4 ∨ s.k = 5) (hil : s.il.length = s.nl.length) :
    Calls Tryd.prog 21 #[.pointer (some ⟨b, 0, none⟩), .int .i64 (i : Int)] w fun e w' => e = .returned (.agg #[.int .i64 s.k, .bool false, .int .i64 (s.il.getD i 0), .string ⟨#[]⟩, .slice none 0 0]) ∧ Below w.heap.size w w' := by
  rcases hk with h | h | h
  · rw [h]; exact at_int_2 F b s i w hv hi hbit hN9 h hil
  · rw [h]; exact at_int_4 F b s i w hv hi hbit hN9 h hil
  · rw [h]; exact at_int_5 F b s i w hv hi hbit hN9 h hil
end Go.Proofs.YtbdbcbpcekpcoaaDoor
