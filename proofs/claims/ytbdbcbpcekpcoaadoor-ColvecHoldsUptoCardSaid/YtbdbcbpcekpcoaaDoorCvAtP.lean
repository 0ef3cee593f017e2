/- At of a column of paths. -/
import Derived.Test.YtbdbcbpcekpcoaaDoorCvAt
set_option linter.unusedVariables false
set_option linter.unusedSimpArgs false
namespace Go.Proofs.YtbdbcbpcekpcoaaDoor
open Go.RowKit Go.Maps

theorem own_set {W : World} {B : Nat} {e : TypeId} {z : Nat} {v : Value} {n : Nat} {xs : List Value} (h : W.ownsRow B e z v n xs) (p : Addr) (u : Value) (hp : p.block < B) : (W.setCell p u).ownsRow B e z v n xs :=
  own_at h (fun k hk e => heap_setCell_other _ _ _ _ (fun e2 => by have := (h.lt k e).1; omega))
theorem own_i64 {W : World} {B : Nat} {A : Option Addr} {c : Nat} {p : List Int} (h : W.ownsRow B 2 1 (.slice A p.length c) p.length (numCells p)) : ReadsI W A p := by
  have h' := h
  rcases h with ⟨hl, ⟨e, h0⟩ | ⟨g, cap, cur, e, hg, hh, hn, hm, hs, htk⟩⟩
  · exact ⟨by omega, fun hp => absurd hp (by omega)⟩
  · cases e
    refine ⟨by unfold maxLen at hm; omega, fun _ => ⟨_, rfl, fun j hj => ?_⟩⟩
    exact h'.cells (g := g) rfl j (.int .i64 (p.getD j 0)) (by simp [numCells, List.getD, hj])
theorem slice_mid (W : World) (g H c f t : Nat) (hf : f < t) (ht : t ≤ H) (hc : H ≤ c) (h9 : H ≤ 1000000000000) :
    (Instr.slice 37 (.slice (some ⟨g, 0, none⟩) H c) (some (.int .i64 (f : Int))) (some (.int .i64 (t : Int))) none).run Tryd.prog W = .ok (.slice (some ⟨g, f, none⟩) (t - f) (c - f)) W := by
  have h1 : ¬ c = f := by omega
  have h2 : f < c := by omega
  have h3 : (f : Int) ≤ (t : Int) := by omega
  have h4 : (0 : Int) ≤ (f : Int) := by omega
  have h5 : (t : Int) ≤ (c : Int) := by omega
  have ha := add_0 g f
  go_simp
  try simp_all
  try omega
theorem clone_f31 (W : World) (g f n c : Nat) (p : List Int) (hp : p.length = n) (hn : n ≤ 1000000000000) (hc : ∀ j, j < n → W.cell? ⟨g, f + j, none⟩ = some (.int .i64 (p.getD j 0))) :
    Calls Tryd.prog 34 #[.slice (some ⟨g, f, none⟩) n c] W fun e w' => ∃ v', e = .returned v' ∧ w'.ownsRow W.heap.size 2 1 v' n (numCells p) ∧ Below W.heap.size W w' := by
  obtain ⟨i0, hi, hz0, hz1, hz2⟩ := info_parts info_i64
  refine (Tryd.slices_Clone_f34 i0 (.int .i64 0) 1 8 hi hz0 hz1 hz2 rfl (by decide) (fun w => by kernel_rfl) g f n c (numCells p) W (by rw [numCells_len]; omega) (by unfold maxLen; omega) (by omega) (fun j u hu => ?_) (by intro u hu; simp [numCells] at hu; obtain ⟨y, _, rfl⟩ := hu; rfl)).mono ?_
  · have hj : j < p.length := by
      have := (List.getElem?_eq_some_iff.1 hu).1
      simpa [numCells] using this
    rw [hc j (by omega)]
    rw [← hu]
    simp [numCells, List.getD, hj]
  · rintro e w' ⟨v', he, ho, _, hb⟩
    exact ⟨v', he, ho, hb⟩
set_option maxRecDepth 100000 in
set_option maxHeartbeats 3200000 in
theorem at_path_0 (F : Nat → Prop) (b : Nat) (s : VS) (i : Nat) (w : World) (hv : VecIs w F b s) (hi : i < s.nl.length) (hbit : s.nl.getD i false = false) (hN9 : s.nl.length ≤ 1000000000000) (hk : s.k = 6) (hil : s.il.length = s.nl.length) (f t : Nat) (hfrom : i = 0 ∧ f = 0) (hto : s.il.getD i 0 = (t : Int)) (hft : f < t) (htH : t ≤ s.hp.length) (hH9 : s.hp.length ≤ 1000000000000) :
    Calls Tryd.prog 21 #[.pointer (some ⟨b, 0, none⟩), .int .i64 (i : Int)] w fun e w' => ∃ A c, e = .returned (.agg #[.int .i64 6, .bool false, .int .i64 0, .string ⟨#[]⟩, .slice A ((s.hp.drop f).take (t - f)).length c]) ∧ ReadsI w' A ((s.hp.drop f).take (t - f)) ∧ (∀ a, A = some a → w.heap.size ≤ a.block) ∧ Below w.heap.size w w' := by
  obtain ⟨nv, bv, iv, dv, hvv, m, hV⟩ := hv
  obtain ⟨W1, hW1⟩ : ∃ W1, W1 = w.alloc (.cells zeroC 39) := ⟨_, rfl⟩
  have hbw := hV.box.lt
  have hv1 : VecB W1 b _ := hV.box.at_ (by rw [hW1]; exact heap_alloc_old w _ hbw)
  have hx1 : Box W1 w.heap.size zeroC := by rw [hW1]; exact Box.new w _
  have HB1 : Below w.heap.size w W1 := by rw [hW1]; exact below_more (Below.refl _ _) _
  have hc := hv1.cells
  have hf := hv1.free
  have hxc : ∀ j, W1.cell? ⟨w.heap.size, j, none⟩ = (#[.int .i64 0, .bool false, .int .i64 0, .string ⟨#[]⟩, .slice none 0 0] : Array Value)[j]? := hx1.cells
  have hxf := hx1.free
  obtain ⟨An, cn, rfl, hrn, _⟩ := own_words hV.nulls
  have hrn1 : ReadsU W1 An (packW s.nl) := ⟨hrn.1, fun hp => by
    obtain ⟨ad, e, h⟩ := hrn.2 hp
    exact ⟨ad, e, fun j hj => (HB1.cell (World.block_lt_of_cell? w _ (h j hj))).trans (h j hj)⟩⟩
  have hm := marked_any An s.nl cn i W1 hrn1 hi
  rw [hbit] at hm
  obtain ⟨N, hN⟩ : ∃ N, N = s.nl.length := ⟨_, rfl⟩
  rw [← hN] at hc hi
  have hi0 : (0 : Int) ≤ (i : Int) := by omega
  have hi1 : (i : Int) < (N : Int) := by omega
  have hi2 : ¬ (i : Int) < 0 := by omega
  have hi3 : ¬ (N : Int) ≤ (i : Int) := by omega
  have hi4 : ¬ N ≤ i := by omega
  have HN := Aside0.mk hN
  rw [hk] at hc hv1
  obtain ⟨gi, ci, rfl, hci⟩ : ∃ gi ci, iv = .slice (some ⟨gi, 0, none⟩) s.il.length ci ∧ s.il.length ≤ ci := by
    rcases hV.ints.2 with ⟨e, h0⟩ | ⟨g, cap, cur, e, _, _, h, _⟩
    · omega
    · exact ⟨g, cap, e, h⟩
  obtain ⟨gh, ch, rfl, hch⟩ : ∃ gh ch, hvv = .slice (some ⟨gh, 0, none⟩) s.hp.length ch ∧ s.hp.length ≤ ch := by
    rcases hV.heap.2 with ⟨e, h0⟩ | ⟨g, cap, cur, e, _, _, h, _⟩
    · omega
    · exact ⟨g, cap, e, h⟩
  have hgl : gi < w.heap.size := own_lt hV.ints rfl
  have hhl : gh < w.heap.size := own_lt hV.heap rfl
  have hcl := World.ownsRow.cellAt hV.ints i (by omega)
  have hcl1 : w.cell? ⟨gi, i, none⟩ = some (.int .i64 (t : Int)) := by
    rw [hcl, ← hto]
    simp [numCells, List.getD, show i < s.il.length by omega]
  have HCI : Aside0 (∀ W, Below w.heap.size w W → W.cell? ⟨gi, i, none⟩ = some (.int .i64 (t : Int))) := ⟨fun W h => (h.cell hgl).trans hcl1⟩
  have hhc : ∀ j, j < s.hp.length → w.cell? ⟨gh, j, none⟩ = some (.int .i64 (s.hp.getD j 0)) := fun j hj => by
    rw [World.ownsRow.cellAt hV.heap j (by omega)]
    simp [numCells, List.getD, hj]
  obtain ⟨p, hp⟩ : ∃ p, p = (s.hp.drop f).take (t - f) := ⟨_, rfl⟩
  have hpl : p.length = t - f := by rw [hp, List.length_take, List.length_drop]; omega
  have hpg : ∀ j, j < t - f → p.getD j 0 = s.hp.getD (f + j) 0 := fun j hj => by
    rw [hp]
    simp [List.getD, List.getElem?_take, hj]
  rw [← hp]
  obtain ⟨n, hn⟩ : ∃ n, n = t - f := ⟨_, rfl⟩
  obtain ⟨cn2, hcn2⟩ : ∃ cn2, cn2 = ch - f := ⟨_, rfl⟩
  have hsl := fun W => slice_mid W gh s.hp.length ch f t hft htH hch hH9
  rw [← hn, ← hcn2] at hsl
  rw [← hn] at hpl hpg
  have HCLN : Aside0 (∀ W, Below w.heap.size w W → Calls Tryd.prog 34 #[.slice (some ⟨gh, f, none⟩) n cn2] W fun e w' => ∃ v', e = .returned v' ∧ w'.ownsRow W.heap.size 2 1 v' n (numCells p) ∧ Below W.heap.size W w') := ⟨fun W h => clone_f31 W gh f n cn2 p hpl (by omega) (fun j hj => by
    rw [hpg j hj, ← hhc (f + j) (by omega)]
    exact h.cell (p := ⟨gh, f + j, none⟩) hhl)⟩
  have HRR : Aside0 (∀ (W : World) (B : Nat) v, w.heap.size + 2 ≤ B → W.ownsRow B 2 1 v n (numCells p) → ∃ A c, v = .slice A n c ∧ Aside0 ((∀ a, A = some a → B ≤ a.block) ∧ ∀ (u4 a0 a1 a2 a3 a4 : Value) (b2 : Nat), b2 < B → ReadsI ((((((W.setCell ⟨b2, 4, none⟩ u4).setCell ⟨w.heap.size, 0, none⟩ a0).setCell ⟨w.heap.size, 1, none⟩ a1).setCell ⟨w.heap.size, 2, none⟩ a2).setCell ⟨w.heap.size, 3, none⟩ a3).setCell ⟨w.heap.size, 4, none⟩ a4) A p)) := ⟨fun W B v hB ho => by
    obtain ⟨A, c, rfl, _⟩ := row_shape ho
    refine ⟨A, c, rfl, ⟨fun a e => (ho.lt a.block (by rw [e]; rfl)).1, fun u4 a0 a1 a2 a3 a4 b2 hb => ?_⟩⟩
    have h6 := own_set (own_set (own_set (own_set (own_set (own_set ho ⟨b2, 4, none⟩ u4 hb) ⟨w.heap.size, 0, none⟩ a0 (by simp only; omega)) ⟨w.heap.size, 1, none⟩ a1 (by simp only; omega)) ⟨w.heap.size, 2, none⟩ a2 (by simp only; omega)) ⟨w.heap.size, 3, none⟩ a3 (by simp only; omega)) ⟨w.heap.size, 4, none⟩ a4 (by simp only; omega)
    rw [← hpl] at h6
    exact own_i64 h6⟩
  have hbx := hV.box.cells
  have hblt := hV.box.lt
  have hx9 : s.il.length = N := by rw [hN]; exact hil
  rw [hx9, ← hN] at hv1
  rw [hx9] at hc hbx
  generalize s.hp.length = H at htH hH9 hv1 hc hbx hsl hch
  have HC7 : Aside0 (∀ W, Below w.heap.size w W → W.cell? ⟨b, 7, none⟩ = some (.slice (some ⟨gh, 0, none⟩) H ch)) := ⟨fun W h => (h.cell hblt).trans (hbx 7)⟩
  have HC4 : Aside0 (∀ W, Below w.heap.size w W → W.cell? ⟨b, 4, none⟩ = some (.slice (some ⟨gi, 0, none⟩) N ci)) := ⟨fun W h => (h.cell hblt).trans (hbx 4)⟩
  have HV1 := Aside0.mk hv1
  have hb1 := hv1.lt
  have hai := add_0 gi i
  rw [hpl]
  obtain ⟨hi00', rfl⟩ := hfrom
  have hi00 : ¬ (0 : Int) < (i : Int) := by omega
  have hsl : ∀ W, (Instr.slice 37 (.slice (some ⟨gh, 0, none⟩) H ch) (some (.int .i64 0)) (some (.int .i64 (t : Int))) none).run Tryd.prog W = .ok (.slice (some ⟨gh, 0, none⟩) n cn2) W := hsl
  clear hi00'
  clear hV hrn hrn1 hN hbit hcl hcl1 hil hx9 hci hch hk hv1 hbx hblt hgl hhl hto hhc hp hpl hpg hn hcn2 hft htH hH9
  go_enter Tryd.func21, Tryd.ntmps21
  go_upto_region 1 with (fail)
  rw [show w.alloc (.cells #[.int .i64 0, .bool false, .int .i64 0, .string ⟨#[]⟩, .slice none 0 0] 39) = W1 from hW1.symm]
  clear hW1
  go_upto_region 4 with (go_at_call 33; go_loud (refine hm.mono ?_))
  obtain ⟨W2, hW2⟩ : ∃ W2, W2 = W1.alloc (.cells #[.int .i64 6, .bool false, .int .i64 0, .string ⟨#[]⟩, .slice none 0 0] 39) := ⟨_, rfl⟩
  obtain ⟨b2, hb2⟩ : ∃ b2, b2 = W1.heap.size := ⟨_, rfl⟩
  rw [← hW2, ← hb2]
  have HB2 : Below w.heap.size w W2 := by rw [hW2]; exact below_more HB1 _
  have hx2 : Box W2 b2 #[.int .i64 6, .bool false, .int .i64 0, .string ⟨#[]⟩, .slice none 0 0] := by rw [hW2, hb2]; exact Box.new W1 _
  have hbw1 : w.heap.size < W1.heap.size := hx1.lt
  have hxr2 : Box W2 w.heap.size zeroC := hx1.at_ (by rw [hW2]; exact heap_alloc_old _ _ hbw1)
  have hv2 := HV1.out.at_ (W' := W2) (by rw [hW2]; exact heap_alloc_old _ _ hb1)
  have hc2 := hv2.cells
  have hf2 := hv2.free
  have hx2c := hx2.cells
  have hx2f := hx2.free
  have hxrc : ∀ j, W2.cell? ⟨w.heap.size, j, none⟩ = (#[.int .i64 0, .bool false, .int .i64 0, .string ⟨#[]⟩, .slice none 0 0] : Array Value)[j]? := hxr2.cells
  have hxrf := hxr2.free
  have hne : w.heap.size ≠ b2 := by omega
  have hne2 : b2 ≠ w.heap.size := by omega
  have hbb : w.heap.size ≤ b2 := by omega
  have HSZ : Aside0 (w.heap.size + 2 ≤ W2.heap.size) := ⟨by have := hx2.lt; omega⟩
  clear hW2 hb2 hc hf hxc hxf HB1 hv2 hx1 HV1 hb1
  go_upto_region 14 with (fail)
  refine wp_region_held_drew (S := (fun WW => Below w.heap.size w WW)) (by kernel_rfl) ?_ (fun hHeld => ?_)
  · (first | exact HB2 | exact hB5 | exact bset hB5 hbb | exact below_drew HB2 | exact below_drew (bset hB5 hbb))
  refine take_in (i := 0) (v := ?v0p) rfl (by kernel_rfl) (by kernel_rfl) (by kernel_rfl) (fun _ _ _ h => h) (by rfl) ?hy0p (by assumption) ?_
  case hy0p => intro WW hSw; (try dsimp only at hSw); go_simp; try with_reducible rfl
  try simp only [Act.put, List.setIfInBounds_toArray, List.set_cons_zero, List.set_cons_succ]
  refine take_in (i := 1) (v := ?v1p) rfl (by kernel_rfl) (by kernel_rfl) (by kernel_rfl) (fun _ _ _ h => h) (by rfl) ?hy1p (by assumption) ?_
  case hy1p => intro WW hSw; (try dsimp only at hSw); go_simp; try with_reducible rfl
  try simp only [Act.put, List.setIfInBounds_toArray, List.set_cons_zero, List.set_cons_succ]
  refine take_in (i := 2) (v := ?v2p) rfl (by kernel_rfl) (by kernel_rfl) (by kernel_rfl) (fun _ _ _ h => h) (by rfl) ?hy2p (by assumption) ?_
  case hy2p => intro WW hSw; (try dsimp only at hSw); go_simp; try with_reducible rfl
  try simp only [Act.put, List.setIfInBounds_toArray, List.set_cons_zero, List.set_cons_succ]
  refine take_in (i := 3) (v := ?v3p) rfl (by kernel_rfl) (by kernel_rfl) (by kernel_rfl) (fun _ _ _ h => h) (by rfl) ?hy3p (by assumption) ?_
  case hy3p => intro WW hSw; have h5 := HC7.out WW hSw; have h4 := HC4.out WW hSw; have hi := HCI.out WW hSw; go_simp; try with_reducible rfl
  try simp only [Act.put, List.setIfInBounds_toArray, List.set_cons_zero, List.set_cons_succ]
  refine take_in (i := 4) (v := ?v4p) rfl (by kernel_rfl) (by kernel_rfl) (by kernel_rfl) (fun _ _ _ h => h) (by rfl) ?hy4p (by assumption) ?_
  case hy4p => intro WW hSw; (try dsimp only at hSw); go_simp; try with_reducible rfl
  try simp only [Act.put, List.setIfInBounds_toArray, List.set_cons_zero, List.set_cons_succ]
  refine take_in (i := 5) (v := ?v5p) rfl (by kernel_rfl) (by kernel_rfl) (by kernel_rfl) (fun _ _ _ h => h) (by rfl) ?hy5p (by assumption) ?_
  case hy5p => intro WW hSw; (try dsimp only at hSw); go_simp; try with_reducible rfl
  try simp only [Act.put, List.setIfInBounds_toArray, List.set_cons_zero, List.set_cons_succ]
  refine take_in (i := 6) (v := ?v6p) rfl (by kernel_rfl) (by kernel_rfl) (by kernel_rfl) (fun _ _ _ h => h) (by rfl) ?hy6p (by assumption) ?_
  case hy6p => intro WW hSw; (try dsimp only at hSw); go_simp; try with_reducible rfl
  try simp only [Act.put, List.setIfInBounds_toArray, List.set_cons_zero, List.set_cons_succ]
  refine take_in (i := 7) (v := ?v7p) rfl (by kernel_rfl) (by kernel_rfl) (by kernel_rfl) (fun _ _ _ h => h) (by rfl) ?hy7p (by assumption) ?_
  case hy7p => intro WW hSw; (try dsimp only at hSw); go_simp; try with_reducible rfl
  try simp only [Act.put, List.setIfInBounds_toArray, List.set_cons_zero, List.set_cons_succ]
  refine take_in (i := 8) (v := ?v8p) rfl (by kernel_rfl) (by kernel_rfl) (by kernel_rfl) (fun _ _ _ h => h) (by rfl) ?hy8p (by assumption) ?_
  case hy8p => intro WW hSw; have h5 := HC7.out WW hSw; have h4 := HC4.out WW hSw; have hi := HCI.out WW hSw; go_simp; try with_reducible rfl
  try simp only [Act.put, List.setIfInBounds_toArray, List.set_cons_zero, List.set_cons_succ]
  refine take_in (i := 9) (v := ?v9p) rfl (by kernel_rfl) (by kernel_rfl) (by kernel_rfl) (fun _ _ _ h => h) (by rfl) ?hy9p (by assumption) ?_
  case hy9p => intro WW hSw; (try dsimp only at hSw); go_simp; try with_reducible rfl
  try simp only [Act.put, List.setIfInBounds_toArray, List.set_cons_zero, List.set_cons_succ]
  refine take_in (i := 10) (v := .pointer (some ⟨gi, i, none⟩)) rfl (by kernel_rfl) (by kernel_rfl) (by kernel_rfl) (fun _ _ _ h => h) (by rfl) ?hy10p (by assumption) ?_
  case hy10p => intro WW hSw; have hh := hai; go_simp; try with_reducible rfl
  try simp only [Act.put, List.setIfInBounds_toArray, List.set_cons_zero, List.set_cons_succ]
  refine take_in (i := 11) (v := ?v11p) rfl (by kernel_rfl) (by kernel_rfl) (by kernel_rfl) (fun _ _ _ h => h) (by rfl) ?hy11p (by assumption) ?_
  case hy11p => intro WW hSw; have h5 := HC7.out WW hSw; have h4 := HC4.out WW hSw; have hi := HCI.out WW hSw; go_simp; try with_reducible rfl
  try simp only [Act.put, List.setIfInBounds_toArray, List.set_cons_zero, List.set_cons_succ]
  refine take_in (i := 12) (v := .slice (some ⟨gh, 0, none⟩) n cn2) rfl (by kernel_rfl) (by kernel_rfl) (by kernel_rfl) (fun _ _ _ h => h) (by rfl) ?hy12p (by assumption) ?_
  case hy12p => intro WW hSw; have hh := hsl WW; go_simp; try with_reducible rfl
  try simp only [Act.put, List.setIfInBounds_toArray, List.set_cons_zero, List.set_cons_succ]
  refine one_step (i := 13) (by kernel_rfl) rfl (fun K hK => ?_)
  go_simp
  go_at_call 34
  go_loud (refine (HCLN.out _ (by first | exact HB2 | exact below_drew HB2)).mono ?_)
  rintro e W5 ⟨v5, rfl, ho5, hb5⟩
  have hB5 : Below w.heap.size w W5 := by first | exact below_then HB2 hb5 | exact below_then (below_drew HB2) hb5
  have hx5 : Box W5 b2 #[.int .i64 6, .bool false, .int .i64 0, .string ⟨#[]⟩, .slice none 0 0] := hx2.at_ (hb5.block b2 hx2.lt)
  have hxr5 : Box W5 w.heap.size zeroC := hxr2.at_ (hb5.block _ hxr2.lt)
  obtain ⟨A5, c5, rfl, hr5⟩ := HRR.out _ _ _ HSZ.out ho5
  have hx5c := hx5.cells
  have hx5f := hx5.free
  clear ho5 hb5
  refine hK.out _ _ ?_ (fun hHeld => ?_)
  · (first | exact HB2 | exact hB5 | exact bset hB5 hbb | exact below_drew HB2 | exact below_drew (bset hB5 hbb))
  clear hK K
  try simp only [Act.put, List.setIfInBounds_toArray, List.set_cons_zero, List.set_cons_succ]
  refine take_in (i := 14) (v := ?v14p) rfl (by kernel_rfl) (by kernel_rfl) (by kernel_rfl) (fun _ _ _ h => h) (by rfl) ?hy14p (by assumption) ?_
  case hy14p => intro WW hSw; (try dsimp only at hSw); go_simp; try with_reducible rfl
  try simp only [Act.put, List.setIfInBounds_toArray, List.set_cons_zero, List.set_cons_succ]
  refine one_step (i := 15) (by kernel_rfl) rfl (fun K hK => ?_)
  go_simp
  refine hK.out _ _ ?_ (fun hHeld => ?_)
  · (first | exact HB2 | exact hB5 | exact bset hB5 hbb | exact below_drew HB2 | exact below_drew (bset hB5 hbb))
  clear hK K
  try simp only [Act.put, List.setIfInBounds_toArray, List.set_cons_zero, List.set_cons_succ]
  refine wpAnyH_done (by kernel_rfl) ?_ _
  go_upto_region 15 with (fail)
  have HLT : Aside0 (b2 < W2.heap.size) := ⟨hx2.lt⟩
  obtain ⟨W3, hW3⟩ : ∃ W3, W3 = W5.setCell ⟨b2, 4, none⟩ (.slice A5 n c5) := ⟨_, rfl⟩
  rw [← hW3]
  have HW3 := Aside0.mk hW3
  have HB3 : Below w.heap.size w W3 := by rw [hW3]; exact bset hB5 hbb
  have hx3 : Box W3 b2 #[.int .i64 6, .bool false, .int .i64 0, .string ⟨#[]⟩, .slice A5 n c5] := by rw [hW3]; exact hx5.put 4 _
  have hxr3 : Box W3 w.heap.size zeroC := hxr5.at_ (by rw [hW3]; exact heap_setCell_other _ _ _ _ hne)
  have hx3c := hx3.cells
  have hx3f := hx3.free
  have hxrc3 : ∀ j, W3.cell? ⟨w.heap.size, j, none⟩ = (#[.int .i64 0, .bool false, .int .i64 0, .string ⟨#[]⟩, .slice none 0 0] : Array Value)[j]? := hxr3.cells
  have hxrf3 := hxr3.free
  clear hW3 hc2 hf2 hx2c hx2f hxrc hxrf HB2 hx2 hxr2 hx5 hxr5 hB5 hx5c hx5f
  go_wp2
  obtain ⟨W7, hW7⟩ : ∃ W7, W7 = (((((W3.setCell ⟨w.heap.size, 0, none⟩ (.int .i64 6)).setCell ⟨w.heap.size, 1, none⟩ (.bool false)).setCell ⟨w.heap.size, 2, none⟩ (.int .i64 0)).setCell ⟨w.heap.size, 3, none⟩ (.string ⟨#[]⟩)).setCell ⟨w.heap.size, 4, none⟩ (.slice A5 n c5)) := ⟨_, rfl⟩
  rw [← hW7]
  have HB7 : Below w.heap.size w W7 := by rw [hW7]; exact below_set (below_set (below_set (below_set (below_set HB3 (Nat.le_refl _) _) (Nat.le_refl _) _) (Nat.le_refl _) _) (Nat.le_refl _) _) (Nat.le_refl _) _
  have xr7 : Box W7 w.heap.size #[.int .i64 6, .bool false, .int .i64 0, .string ⟨#[]⟩, .slice A5 n c5] := by rw [hW7]; exact ((((hxr3.put 0 _).put 1 _).put 2 _).put 3 _).put 4 _
  refine bodyPost_ret (results_val rfl rfl xr7 rfl) rfl ?_
  exact ⟨A5, c5, rfl, by rw [hW7, HW3.out]; exact hr5.out.2 _ _ _ _ _ _ b2 HLT.out, fun a e => by have h1 := hr5.out.1 a e; have h2 := HSZ.out; have h3 : w.heap.size ≤ W2.heap.size := (by omega); exact Nat.le_trans h3 h1, HB7⟩
set_option maxRecDepth 100000 in
set_option maxHeartbeats 3200000 in
theorem at_path_n (F : Nat → Prop) (b : Nat) (s : VS) (i : Nat) (w : World) (hv : VecIs w F b s) (hi : i < s.nl.length) (hbit : s.nl.getD i false = false) (hN9 : s.nl.length ≤ 1000000000000) (hk : s.k = 6) (hil : s.il.length = s.nl.length) (f t : Nat) (hfrom : 0 < i ∧ s.il.getD (i - 1) 0 = (f : Int)) (hto : s.il.getD i 0 = (t : Int)) (hft : f < t) (htH : t ≤ s.hp.length) (hH9 : s.hp.length ≤ 1000000000000) :
    Calls Tryd.prog 21 #[.pointer (some ⟨b, 0, none⟩), .int .i64 (i : Int)] w fun e w' => ∃ A c, e = .returned (.agg #[.int .i64 6, .bool false, .int .i64 0, .string ⟨#[]⟩, .slice A ((s.hp.drop f).take (t - f)).length c]) ∧ ReadsI w' A ((s.hp.drop f).take (t - f)) ∧ (∀ a, A = some a → w.heap.size ≤ a.block) ∧ Below w.heap.size w w' := by
  obtain ⟨nv, bv, iv, dv, hvv, m, hV⟩ := hv
  obtain ⟨W1, hW1⟩ : ∃ W1, W1 = w.alloc (.cells zeroC 39) := ⟨_, rfl⟩
  have hbw := hV.box.lt
  have hv1 : VecB W1 b _ := hV.box.at_ (by rw [hW1]; exact heap_alloc_old w _ hbw)
  have hx1 : Box W1 w.heap.size zeroC := by rw [hW1]; exact Box.new w _
  have HB1 : Below w.heap.size w W1 := by rw [hW1]; exact below_more (Below.refl _ _) _
  have hc := hv1.cells
  have hf := hv1.free
  have hxc : ∀ j, W1.cell? ⟨w.heap.size, j, none⟩ = (#[.int .i64 0, .bool false, .int .i64 0, .string ⟨#[]⟩, .slice none 0 0] : Array Value)[j]? := hx1.cells
  have hxf := hx1.free
  obtain ⟨An, cn, rfl, hrn, _⟩ := own_words hV.nulls
  have hrn1 : ReadsU W1 An (packW s.nl) := ⟨hrn.1, fun hp => by
    obtain ⟨ad, e, h⟩ := hrn.2 hp
    exact ⟨ad, e, fun j hj => (HB1.cell (World.block_lt_of_cell? w _ (h j hj))).trans (h j hj)⟩⟩
  have hm := marked_any An s.nl cn i W1 hrn1 hi
  rw [hbit] at hm
  obtain ⟨N, hN⟩ : ∃ N, N = s.nl.length := ⟨_, rfl⟩
  rw [← hN] at hc hi
  have hi0 : (0 : Int) ≤ (i : Int) := by omega
  have hi1 : (i : Int) < (N : Int) := by omega
  have hi2 : ¬ (i : Int) < 0 := by omega
  have hi3 : ¬ (N : Int) ≤ (i : Int) := by omega
  have hi4 : ¬ N ≤ i := by omega
  have HN := Aside0.mk hN
  rw [hk] at hc hv1
  obtain ⟨gi, ci, rfl, hci⟩ : ∃ gi ci, iv = .slice (some ⟨gi, 0, none⟩) s.il.length ci ∧ s.il.length ≤ ci := by
    rcases hV.ints.2 with ⟨e, h0⟩ | ⟨g, cap, cur, e, _, _, h, _⟩
    · omega
    · exact ⟨g, cap, e, h⟩
  obtain ⟨gh, ch, rfl, hch⟩ : ∃ gh ch, hvv = .slice (some ⟨gh, 0, none⟩) s.hp.length ch ∧ s.hp.length ≤ ch := by
    rcases hV.heap.2 with ⟨e, h0⟩ | ⟨g, cap, cur, e, _, _, h, _⟩
    · omega
    · exact ⟨g, cap, e, h⟩
  have hgl : gi < w.heap.size := own_lt hV.ints rfl
  have hhl : gh < w.heap.size := own_lt hV.heap rfl
  have hcl := World.ownsRow.cellAt hV.ints i (by omega)
  have hcl1 : w.cell? ⟨gi, i, none⟩ = some (.int .i64 (t : Int)) := by
    rw [hcl, ← hto]
    simp [numCells, List.getD, show i < s.il.length by omega]
  have HCI : Aside0 (∀ W, Below w.heap.size w W → W.cell? ⟨gi, i, none⟩ = some (.int .i64 (t : Int))) := ⟨fun W h => (h.cell hgl).trans hcl1⟩
  have hcj := World.ownsRow.cellAt hV.ints (i - 1) (by omega)
  have hcj1 : w.cell? ⟨gi, i - 1, none⟩ = some (.int .i64 (f : Int)) := by
    rw [hcj, ← hfrom.2]
    simp [numCells, List.getD, show i - 1 < s.il.length by omega]
  obtain ⟨i1, hi1⟩ : ∃ i1, i1 = i - 1 := ⟨_, rfl⟩
  rw [← hi1] at hcj1
  have HCJ : Aside0 (∀ W, Below w.heap.size w W → W.cell? ⟨gi, i1, none⟩ = some (.int .i64 (f : Int))) := ⟨fun W h => (h.cell hgl).trans hcj1⟩
  have hii : (i : Int) - 1 = (i1 : Int) := by omega
  have hiw : IntKind.i64.wrap (i1 : Int) = (i1 : Int) := by rw [IntKind.wrap_i64]; omega
  have hi10 : (0 : Int) ≤ (i1 : Int) := by omega
  have hi1N : (i1 : Int) < (N : Int) := by omega
  have hipos : (0 : Int) < (i : Int) := by omega
  have haj := add_0 gi i1
  clear hcj hcj1 hi1
  have hhc : ∀ j, j < s.hp.length → w.cell? ⟨gh, j, none⟩ = some (.int .i64 (s.hp.getD j 0)) := fun j hj => by
    rw [World.ownsRow.cellAt hV.heap j (by omega)]
    simp [numCells, List.getD, hj]
  obtain ⟨p, hp⟩ : ∃ p, p = (s.hp.drop f).take (t - f) := ⟨_, rfl⟩
  have hpl : p.length = t - f := by rw [hp, List.length_take, List.length_drop]; omega
  have hpg : ∀ j, j < t - f → p.getD j 0 = s.hp.getD (f + j) 0 := fun j hj => by
    rw [hp]
    simp [List.getD, List.getElem?_take, hj]
  rw [← hp]
  obtain ⟨n, hn⟩ : ∃ n, n = t - f := ⟨_, rfl⟩
  obtain ⟨cn2, hcn2⟩ : ∃ cn2, cn2 = ch - f := ⟨_, rfl⟩
  have hsl := fun W => slice_mid W gh s.hp.length ch f t hft htH hch hH9
  rw [← hn, ← hcn2] at hsl
  rw [← hn] at hpl hpg
  have HCLN : Aside0 (∀ W, Below w.heap.size w W → Calls Tryd.prog 34 #[.slice (some ⟨gh, f, none⟩) n cn2] W fun e w' => ∃ v', e = .returned v' ∧ w'.ownsRow W.heap.size 2 1 v' n (numCells p) ∧ Below W.heap.size W w') := ⟨fun W h => clone_f31 W gh f n cn2 p hpl (by omega) (fun j hj => by
    rw [hpg j hj, ← hhc (f + j) (by omega)]
    exact h.cell (p := ⟨gh, f + j, none⟩) hhl)⟩
  have HRR : Aside0 (∀ (W : World) (B : Nat) v, w.heap.size + 2 ≤ B → W.ownsRow B 2 1 v n (numCells p) → ∃ A c, v = .slice A n c ∧ Aside0 ((∀ a, A = some a → B ≤ a.block) ∧ ∀ (u4 a0 a1 a2 a3 a4 : Value) (b2 : Nat), b2 < B → ReadsI ((((((W.setCell ⟨b2, 4, none⟩ u4).setCell ⟨w.heap.size, 0, none⟩ a0).setCell ⟨w.heap.size, 1, none⟩ a1).setCell ⟨w.heap.size, 2, none⟩ a2).setCell ⟨w.heap.size, 3, none⟩ a3).setCell ⟨w.heap.size, 4, none⟩ a4) A p)) := ⟨fun W B v hB ho => by
    obtain ⟨A, c, rfl, _⟩ := row_shape ho
    refine ⟨A, c, rfl, ⟨fun a e => (ho.lt a.block (by rw [e]; rfl)).1, fun u4 a0 a1 a2 a3 a4 b2 hb => ?_⟩⟩
    have h6 := own_set (own_set (own_set (own_set (own_set (own_set ho ⟨b2, 4, none⟩ u4 hb) ⟨w.heap.size, 0, none⟩ a0 (by simp only; omega)) ⟨w.heap.size, 1, none⟩ a1 (by simp only; omega)) ⟨w.heap.size, 2, none⟩ a2 (by simp only; omega)) ⟨w.heap.size, 3, none⟩ a3 (by simp only; omega)) ⟨w.heap.size, 4, none⟩ a4 (by simp only; omega)
    rw [← hpl] at h6
    exact own_i64 h6⟩
  have hbx := hV.box.cells
  have hblt := hV.box.lt
  have hx9 : s.il.length = N := by rw [hN]; exact hil
  rw [hx9, ← hN] at hv1
  rw [hx9] at hc hbx
  generalize s.hp.length = H at htH hH9 hv1 hc hbx hsl hch
  have HC7 : Aside0 (∀ W, Below w.heap.size w W → W.cell? ⟨b, 7, none⟩ = some (.slice (some ⟨gh, 0, none⟩) H ch)) := ⟨fun W h => (h.cell hblt).trans (hbx 7)⟩
  have HC4 : Aside0 (∀ W, Below w.heap.size w W → W.cell? ⟨b, 4, none⟩ = some (.slice (some ⟨gi, 0, none⟩) N ci)) := ⟨fun W h => (h.cell hblt).trans (hbx 4)⟩
  have HV1 := Aside0.mk hv1
  have hb1 := hv1.lt
  have hai := add_0 gi i
  rw [hpl]
  clear hfrom
  clear hV hrn hrn1 hN hbit hcl hcl1 hil hx9 hci hch hk hv1 hbx hblt hgl hhl hto hhc hp hpl hpg hn hcn2 hft htH hH9
  go_enter Tryd.func21, Tryd.ntmps21
  go_upto_region 1 with (fail)
  rw [show w.alloc (.cells #[.int .i64 0, .bool false, .int .i64 0, .string ⟨#[]⟩, .slice none 0 0] 39) = W1 from hW1.symm]
  clear hW1
  go_upto_region 4 with (go_at_call 33; go_loud (refine hm.mono ?_))
  obtain ⟨W2, hW2⟩ : ∃ W2, W2 = W1.alloc (.cells #[.int .i64 6, .bool false, .int .i64 0, .string ⟨#[]⟩, .slice none 0 0] 39) := ⟨_, rfl⟩
  obtain ⟨b2, hb2⟩ : ∃ b2, b2 = W1.heap.size := ⟨_, rfl⟩
  rw [← hW2, ← hb2]
  have HB2 : Below w.heap.size w W2 := by rw [hW2]; exact below_more HB1 _
  have hx2 : Box W2 b2 #[.int .i64 6, .bool false, .int .i64 0, .string ⟨#[]⟩, .slice none 0 0] := by rw [hW2, hb2]; exact Box.new W1 _
  have hbw1 : w.heap.size < W1.heap.size := hx1.lt
  have hxr2 : Box W2 w.heap.size zeroC := hx1.at_ (by rw [hW2]; exact heap_alloc_old _ _ hbw1)
  have hv2 := HV1.out.at_ (W' := W2) (by rw [hW2]; exact heap_alloc_old _ _ hb1)
  have hc2 := hv2.cells
  have hf2 := hv2.free
  have hx2c := hx2.cells
  have hx2f := hx2.free
  have hxrc : ∀ j, W2.cell? ⟨w.heap.size, j, none⟩ = (#[.int .i64 0, .bool false, .int .i64 0, .string ⟨#[]⟩, .slice none 0 0] : Array Value)[j]? := hxr2.cells
  have hxrf := hxr2.free
  have hne : w.heap.size ≠ b2 := by omega
  have hne2 : b2 ≠ w.heap.size := by omega
  have hbb : w.heap.size ≤ b2 := by omega
  have HSZ : Aside0 (w.heap.size + 2 ≤ W2.heap.size) := ⟨by have := hx2.lt; omega⟩
  clear hW2 hb2 hc hf hxc hxf HB1 hv2 hx1 HV1 hb1
  have hcj2 := HCJ.out W2 HB2
  have hcj3 := hcj2
  rw [← haj] at hcj3
  go_upto_region 14 with (fail)
  clear hcj2 hcj3
  refine wp_region_held_drew (S := (fun WW => Below w.heap.size w WW)) (by kernel_rfl) ?_ (fun hHeld => ?_)
  · (first | exact HB2 | exact hB5 | exact bset hB5 hbb | exact below_drew HB2 | exact below_drew (bset hB5 hbb))
  refine take_in (i := 0) (v := ?v0p) rfl (by kernel_rfl) (by kernel_rfl) (by kernel_rfl) (fun _ _ _ h => h) (by rfl) ?hy0p (by assumption) ?_
  case hy0p => intro WW hSw; (try dsimp only at hSw); go_simp; try with_reducible rfl
  try simp only [Act.put, List.setIfInBounds_toArray, List.set_cons_zero, List.set_cons_succ]
  refine take_in (i := 1) (v := ?v1p) rfl (by kernel_rfl) (by kernel_rfl) (by kernel_rfl) (fun _ _ _ h => h) (by rfl) ?hy1p (by assumption) ?_
  case hy1p => intro WW hSw; (try dsimp only at hSw); go_simp; try with_reducible rfl
  try simp only [Act.put, List.setIfInBounds_toArray, List.set_cons_zero, List.set_cons_succ]
  refine take_in (i := 2) (v := ?v2p) rfl (by kernel_rfl) (by kernel_rfl) (by kernel_rfl) (fun _ _ _ h => h) (by rfl) ?hy2p (by assumption) ?_
  case hy2p => intro WW hSw; (try dsimp only at hSw); go_simp; try with_reducible rfl
  try simp only [Act.put, List.setIfInBounds_toArray, List.set_cons_zero, List.set_cons_succ]
  refine take_in (i := 3) (v := ?v3p) rfl (by kernel_rfl) (by kernel_rfl) (by kernel_rfl) (fun _ _ _ h => h) (by rfl) ?hy3p (by assumption) ?_
  case hy3p => intro WW hSw; have h5 := HC7.out WW hSw; have h4 := HC4.out WW hSw; have hi := HCI.out WW hSw; go_simp; try with_reducible rfl
  try simp only [Act.put, List.setIfInBounds_toArray, List.set_cons_zero, List.set_cons_succ]
  refine take_in (i := 4) (v := ?v4p) rfl (by kernel_rfl) (by kernel_rfl) (by kernel_rfl) (fun _ _ _ h => h) (by rfl) ?hy4p (by assumption) ?_
  case hy4p => intro WW hSw; (try dsimp only at hSw); go_simp; try with_reducible rfl
  try simp only [Act.put, List.setIfInBounds_toArray, List.set_cons_zero, List.set_cons_succ]
  refine take_in (i := 5) (v := ?v5p) rfl (by kernel_rfl) (by kernel_rfl) (by kernel_rfl) (fun _ _ _ h => h) (by rfl) ?hy5p (by assumption) ?_
  case hy5p => intro WW hSw; (try dsimp only at hSw); go_simp; try with_reducible rfl
  try simp only [Act.put, List.setIfInBounds_toArray, List.set_cons_zero, List.set_cons_succ]
  refine take_in (i := 6) (v := ?v6p) rfl (by kernel_rfl) (by kernel_rfl) (by kernel_rfl) (fun _ _ _ h => h) (by rfl) ?hy6p (by assumption) ?_
  case hy6p => intro WW hSw; (try dsimp only at hSw); go_simp; try with_reducible rfl
  try simp only [Act.put, List.setIfInBounds_toArray, List.set_cons_zero, List.set_cons_succ]
  refine take_in (i := 7) (v := ?v7p) rfl (by kernel_rfl) (by kernel_rfl) (by kernel_rfl) (fun _ _ _ h => h) (by rfl) ?hy7p (by assumption) ?_
  case hy7p => intro WW hSw; (try dsimp only at hSw); go_simp; try with_reducible rfl
  try simp only [Act.put, List.setIfInBounds_toArray, List.set_cons_zero, List.set_cons_succ]
  refine take_in (i := 8) (v := ?v8p) rfl (by kernel_rfl) (by kernel_rfl) (by kernel_rfl) (fun _ _ _ h => h) (by rfl) ?hy8p (by assumption) ?_
  case hy8p => intro WW hSw; have h5 := HC7.out WW hSw; have h4 := HC4.out WW hSw; have hi := HCI.out WW hSw; go_simp; try with_reducible rfl
  try simp only [Act.put, List.setIfInBounds_toArray, List.set_cons_zero, List.set_cons_succ]
  refine take_in (i := 9) (v := ?v9p) rfl (by kernel_rfl) (by kernel_rfl) (by kernel_rfl) (fun _ _ _ h => h) (by rfl) ?hy9p (by assumption) ?_
  case hy9p => intro WW hSw; (try dsimp only at hSw); go_simp; try with_reducible rfl
  try simp only [Act.put, List.setIfInBounds_toArray, List.set_cons_zero, List.set_cons_succ]
  refine take_in (i := 10) (v := .pointer (some ⟨gi, i, none⟩)) rfl (by kernel_rfl) (by kernel_rfl) (by kernel_rfl) (fun _ _ _ h => h) (by rfl) ?hy10p (by assumption) ?_
  case hy10p => intro WW hSw; have hh := hai; go_simp; try with_reducible rfl
  try simp only [Act.put, List.setIfInBounds_toArray, List.set_cons_zero, List.set_cons_succ]
  refine take_in (i := 11) (v := ?v11p) rfl (by kernel_rfl) (by kernel_rfl) (by kernel_rfl) (fun _ _ _ h => h) (by rfl) ?hy11p (by assumption) ?_
  case hy11p => intro WW hSw; have h5 := HC7.out WW hSw; have h4 := HC4.out WW hSw; have hi := HCI.out WW hSw; go_simp; try with_reducible rfl
  try simp only [Act.put, List.setIfInBounds_toArray, List.set_cons_zero, List.set_cons_succ]
  refine take_in (i := 12) (v := .slice (some ⟨gh, f, none⟩) n cn2) rfl (by kernel_rfl) (by kernel_rfl) (by kernel_rfl) (fun _ _ _ h => h) (by rfl) ?hy12p (by assumption) ?_
  case hy12p => intro WW hSw; have hh := hsl WW; go_simp; try with_reducible rfl
  try simp only [Act.put, List.setIfInBounds_toArray, List.set_cons_zero, List.set_cons_succ]
  refine one_step (i := 13) (by kernel_rfl) rfl (fun K hK => ?_)
  go_simp
  go_at_call 34
  go_loud (refine (HCLN.out _ (by first | exact HB2 | exact below_drew HB2)).mono ?_)
  rintro e W5 ⟨v5, rfl, ho5, hb5⟩
  have hB5 : Below w.heap.size w W5 := by first | exact below_then HB2 hb5 | exact below_then (below_drew HB2) hb5
  have hx5 : Box W5 b2 #[.int .i64 6, .bool false, .int .i64 0, .string ⟨#[]⟩, .slice none 0 0] := hx2.at_ (hb5.block b2 hx2.lt)
  have hxr5 : Box W5 w.heap.size zeroC := hxr2.at_ (hb5.block _ hxr2.lt)
  obtain ⟨A5, c5, rfl, hr5⟩ := HRR.out _ _ _ HSZ.out ho5
  have hx5c := hx5.cells
  have hx5f := hx5.free
  clear ho5 hb5
  refine hK.out _ _ ?_ (fun hHeld => ?_)
  · (first | exact HB2 | exact hB5 | exact bset hB5 hbb | exact below_drew HB2 | exact below_drew (bset hB5 hbb))
  clear hK K
  try simp only [Act.put, List.setIfInBounds_toArray, List.set_cons_zero, List.set_cons_succ]
  refine take_in (i := 14) (v := ?v14p) rfl (by kernel_rfl) (by kernel_rfl) (by kernel_rfl) (fun _ _ _ h => h) (by rfl) ?hy14p (by assumption) ?_
  case hy14p => intro WW hSw; (try dsimp only at hSw); go_simp; try with_reducible rfl
  try simp only [Act.put, List.setIfInBounds_toArray, List.set_cons_zero, List.set_cons_succ]
  refine one_step (i := 15) (by kernel_rfl) rfl (fun K hK => ?_)
  go_simp
  refine hK.out _ _ ?_ (fun hHeld => ?_)
  · (first | exact HB2 | exact hB5 | exact bset hB5 hbb | exact below_drew HB2 | exact below_drew (bset hB5 hbb))
  clear hK K
  try simp only [Act.put, List.setIfInBounds_toArray, List.set_cons_zero, List.set_cons_succ]
  refine wpAnyH_done (by kernel_rfl) ?_ _
  go_upto_region 15 with (fail)
  have HLT : Aside0 (b2 < W2.heap.size) := ⟨hx2.lt⟩
  obtain ⟨W3, hW3⟩ : ∃ W3, W3 = W5.setCell ⟨b2, 4, none⟩ (.slice A5 n c5) := ⟨_, rfl⟩
  rw [← hW3]
  have HW3 := Aside0.mk hW3
  have HB3 : Below w.heap.size w W3 := by rw [hW3]; exact bset hB5 hbb
  have hx3 : Box W3 b2 #[.int .i64 6, .bool false, .int .i64 0, .string ⟨#[]⟩, .slice A5 n c5] := by rw [hW3]; exact hx5.put 4 _
  have hxr3 : Box W3 w.heap.size zeroC := hxr5.at_ (by rw [hW3]; exact heap_setCell_other _ _ _ _ hne)
  have hx3c := hx3.cells
  have hx3f := hx3.free
  have hxrc3 : ∀ j, W3.cell? ⟨w.heap.size, j, none⟩ = (#[.int .i64 0, .bool false, .int .i64 0, .string ⟨#[]⟩, .slice none 0 0] : Array Value)[j]? := hxr3.cells
  have hxrf3 := hxr3.free
  clear hW3 hc2 hf2 hx2c hx2f hxrc hxrf HB2 hx2 hxr2 hx5 hxr5 hB5 hx5c hx5f
  go_wp2
  obtain ⟨W7, hW7⟩ : ∃ W7, W7 = (((((W3.setCell ⟨w.heap.size, 0, none⟩ (.int .i64 6)).setCell ⟨w.heap.size, 1, none⟩ (.bool false)).setCell ⟨w.heap.size, 2, none⟩ (.int .i64 0)).setCell ⟨w.heap.size, 3, none⟩ (.string ⟨#[]⟩)).setCell ⟨w.heap.size, 4, none⟩ (.slice A5 n c5)) := ⟨_, rfl⟩
  rw [← hW7]
  have HB7 : Below w.heap.size w W7 := by rw [hW7]; exact below_set (below_set (below_set (below_set (below_set HB3 (Nat.le_refl _) _) (Nat.le_refl _) _) (Nat.le_refl _) _) (Nat.le_refl _) _) (Nat.le_refl _) _
  have xr7 : Box W7 w.heap.size #[.int .i64 6, .bool false, .int .i64 0, .string ⟨#[]⟩, .slice A5 n c5] := by rw [hW7]; exact ((((hxr3.put 0 _).put 1 _).put 2 _).put 3 _).put 4 _
  refine bodyPost_ret (results_val rfl rfl xr7 rfl) rfl ?_
  exact ⟨A5, c5, rfl, by rw [hW7, HW3.out]; exact hr5.out.2 _ _ _ _ _ _ b2 HLT.out, fun a e => by have h1 := hr5.out.1 a e; have h2 := HSZ.out; have h3 : w.heap.size ≤ W2.heap.size := (by omega); exact Nat.le_trans h3 h1, HB7⟩
end Go.Proofs.YtbdbcbpcekpcoaaDoor
