/- The walk of the law ValueTells. -/
import Derived.Test.YthafbdkjpgeopaaDoorRegT
set_option linter.unusedVariables false
set_option linter.unusedSimpArgs false
namespace Go.Proofs.YthafbdkjpgeopaaDoor
open Go.RowKit

theorem boxV_next {W W' : World} {b : Nat} {cs : Array Value} (hb : Below W.heap.size W W') (h : BoxV W b cs) : BoxV W' b cs := h.kept hb
theorem own_next {W W' : World} {B : Nat} {e : TypeId} {z : Nat} {v : Value} {n : Nat} {xs : List Value} (hb : Below W.heap.size W W') (h : W.ownsRow B e z v n xs) : W'.ownsRow B e z v n xs := own_kept h hb
theorem same_refl (k n : Int) (b : Bool) (s : ByteArray) (p : List Int) : sameB k b n s p k b n s p = true := by
  simp [sameB]
set_option maxRecDepth 100000 in
set_option maxHeartbeats 12800000 in
theorem tells_walk (k n : Int) (b : Bool) (s : ByteArray) (A : Option Addr) (p : List Int) (c : Nat) (w : World) (hr : ReadsI w A p) (ht : Tabs w) (hss : s.size ≤ 9223372036854775807) (hpl : p.length ≤ 17592186044416) (hpc : p.length ≤ c) (hn : -9223372036854775808 ≤ n ∧ n ≤ 9223372036854775807) (hT : Lib.Utf8Tabs 0 1 w) :
    Calls Tryd.prog 13 #[.agg #[.int .i64 k, .bool b, .int .i64 n, .string s, .slice A p.length c]] w fun e w' => e = .returned (.bool true) ∧ Below w.heap.size w w' := by
  have hH := fun W (h : Below w.heap.size w W) => head_any W (ht.below h)
  have hC := fun W (h : Below w.heap.size w W) => copied_any k n b s A p c W (hr.below h) hpl
  have HR := Aside0.mk hr
  have HT := Aside0.mk hT
  have HTB := Aside0.mk ht
  clear hr hT ht
  go_enter Tryd.func13, Tryd.ntmps13
  go_wp2_with (go_at_call 19; go_loud (refine (hH _ (below_more (Below.refl _ _) _)).mono ?_))
  first
    | (intro e W1 he hb1; subst he)
    | rintro e W1 ⟨rfl, hb1⟩
  have HB1 : Below w.heap.size w W1 := by first | exact below_box hb1 | exact (below_more (Below.refl _ _) _).trans (hb1.mono (Nat.le_succ _))
  have hbx0 : BoxV W1 w.heap.size #[.int .i64 k, .bool b, .int .i64 n, .string s, .slice A p.length c] := by
    first
      | exact (hb1.block w.heap.size (by simp)).trans (heap_alloc_new w _)
      | exact (hb1.block w.heap.size (Nat.lt_succ_self _)).trans (heap_alloc_new w _)
  have hbc0 := hbx0.cells
  clear hb1 hH
  go_wp2_with (go_at_call 37; go_loud (refine (hC _ HB1).mono ?_))
  first
    | (intro e W2 A' c' he hrA hca hb2; subst he)
    | rintro e W2 ⟨A', c', rfl, hrA, hca, hb2⟩
  have HB2 := below_then HB1 hb2
  have hbx02 := hbx0.kept hb2
  clear hb2 hC hbc0 hbx0 HB1
  go_upto_region 3 with (fail)
  obtain ⟨Wb, hWb⟩ : ∃ Wb, Wb = W2.alloc (.cells #[.int .i64 k, .bool b, .int .i64 n, .string s, .slice A' p.length c'] 25) := ⟨_, rfl⟩
  obtain ⟨b1, hb1⟩ : ∃ b1, b1 = W2.heap.size := ⟨_, rfl⟩
  rw [← hWb, ← hb1]
  have HBb : Below w.heap.size w Wb := by rw [hWb]; exact below_more HB2 _
  have hx0 : BoxV Wb w.heap.size #[.int .i64 k, .bool b, .int .i64 n, .string s, .slice A p.length c] := by rw [hWb]; exact (heap_alloc_old _ _ hbx02.lt).trans hbx02
  have hx1 : BoxV Wb b1 #[.int .i64 k, .bool b, .int .i64 n, .string s, .slice A' p.length c'] := by rw [hWb, hb1]; exact heap_alloc_new W2 _
  have HX0 := Aside0.mk hx0
  have HX1 := Aside0.mk hx1
  have HCL : Aside0 (∀ Y, Below Wb.heap.size Wb Y → Y.cell? ⟨w.heap.size, 0, none⟩ = some (.int .i64 k) ∧ Y.cell? ⟨w.heap.size, 1, none⟩ = some (.bool b) ∧ Y.cell? ⟨w.heap.size, 2, none⟩ = some (.int .i64 n) ∧ Y.cell? ⟨w.heap.size, 3, none⟩ = some (.string s) ∧ Y.cell? ⟨w.heap.size, 4, none⟩ = some (.slice A p.length c) ∧ Y.cell? ⟨b1, 0, none⟩ = some (.int .i64 k) ∧ Y.cell? ⟨b1, 1, none⟩ = some (.bool b) ∧ Y.cell? ⟨b1, 2, none⟩ = some (.int .i64 n) ∧ Y.cell? ⟨b1, 3, none⟩ = some (.string s) ∧ Y.cell? ⟨b1, 4, none⟩ = some (.slice A' p.length c')) := ⟨fun Y hY => ⟨(HX0.out.kept hY).cells 0, (HX0.out.kept hY).cells 1, (HX0.out.kept hY).cells 2, (HX0.out.kept hY).cells 3, (HX0.out.kept hY).cells 4, (HX1.out.kept hY).cells 0, (HX1.out.kept hY).cells 1, (HX1.out.kept hY).cells 2, (HX1.out.kept hY).cells 3, (HX1.out.kept hY).cells 4⟩⟩
  have hc0 := hx0.cells
  have hc1 := hx1.cells
  have hra : ReadsI Wb A p := HR.out.below HBb
  have hrc : ReadsI Wb A' p := by rw [hWb]; exact hrA.below (below_more (Below.refl _ _) _)
  have htb : Tabs Wb := HTB.out.below HBb
  have hTb := Utf8Tabs_below HT.out HBb
  have hE1 : ∀ W, Below Wb.heap.size Wb W → _ := fun W hW => enc_any k n b s A' p c' W (hrc.below hW) hn
  have hE2 : ∀ W, Below Wb.heap.size Wb W → _ := fun W hW => renc_any k n b s A p c W (hra.below hW) hn (by omega) (Utf8Tabs_below hTb hW)
  have hR1 : ∀ W, Below Wb.heap.size Wb W → _ := fun W hW => right_any k n b s A' p c' W (hrc.below hW)
  have hR2 : ∀ W, Below Wb.heap.size Wb W → _ := fun W hW => rright_any k n b s A p c W (hra.below hW) (by omega) (Utf8Tabs_below hTb hW)
  have hS1 : ∀ W, Below Wb.heap.size Wb W → _ := fun W hW => show_any k n b s A' p c' W (hrc.below hW) hn (htb.below hW) hca
  have hS2 : ∀ W, Below Wb.heap.size Wb W → _ := fun W hW => rshow_any k n b s A p c W (hra.below hW) hn (htb.below hW) (by omega) (Utf8Tabs_below hTb hW)
  have hSa : ∀ W, Below Wb.heap.size Wb W → _ := fun W hW => same_any k n b s A p c k n b s A' p c' W (hra.below hW) (hrc.below hW)
  have hG1 : ∀ W A9 c9, Below Wb.heap.size Wb W → ReadsV W A9 [⟨k, n, b, s, A', p, c'⟩, ⟨k, n, b, s, A, p, c⟩] → _ := fun W A9 c9 hW h => hash_any A9 [⟨k, n, b, s, A', p, c'⟩, ⟨k, n, b, s, A, p, c⟩] c9 W h
  have hG2 : ∀ W A9 c9, Below Wb.heap.size Wb W → ReadsV W A9 [⟨k, n, b, s, A, p, c⟩, ⟨k, n, b, s, A, p, c⟩] → _ := fun W A9 c9 hW h => rhash_any A9 [⟨k, n, b, s, A, p, c⟩, ⟨k, n, b, s, A, p, c⟩] c9 W h (fun v hv => by simp at hv; rw [hv]; show s.size ≤ _; omega) (Utf8Tabs_below hTb hW)
  have hU := allU8_enc k b n s p
  have hsm := same_refl k n b s p
  rw [hsm] at hSa
  have hhh : hashV [⟨k, n, b, s, A', p, c'⟩, ⟨k, n, b, s, A, p, c⟩] 14695981039346656037 = hashV [⟨k, n, b, s, A, p, c⟩, ⟨k, n, b, s, A, p, c⟩] 14695981039346656037 := rfl
  rw [hhh] at hG1
  generalize hashV [⟨k, n, b, s, A, p, c⟩, ⟨k, n, b, s, A, p, c⟩] 14695981039346656037 = HX at hG1 hG2
  generalize encL k b n s p = X at hE1 hE2 hU
  have HU := Aside0.mk hU
  have hcs : ∀ W B v, World.ownsRow W B 5 1 v X.length X → (convert 30 9 v).run Tryd.prog W = .ok (.string (strOf X)) W := fun W B v h => conv_str h hU
  generalize strOf X = T at hcs
  generalize (⟨(showL k b n s p).toArray⟩ : ByteArray) = SH at hS1 hS2
  generalize rightB k b n s p = R at hR1 hR2
  have hRR : (R == R) = true := by simp
  have hTT : (T.toList == T.toList) = true := by simp
  have hSS : (SH.toList == SH.toList) = true := by simp
  have hXX : (HX == HX) = true := by simp
  have hbw : w.heap.size < b1 := by rw [hb1]; exact hbx02.lt
  have HHX := Aside0.mk (And.intro hra hrc)
  clear hra hrc htb hTb hU hsm hhh hWb hb1 HB2 hbx02 hrA HR HT HTB
  go_wp2_with (go_at_call 23; go_loud (refine (hE1 _ (Below.refl _ _)).mono ?_))
  first
    | (intro e W3 v5 he ho5 hb9; subst he)
    | rintro e W3 ⟨v5, rfl, ho5, hb9⟩
  have HB3 := hb9
  replace hx0 := boxV_next hb9 hx0
  replace hx1 := boxV_next hb9 hx1
  clear hb9
  replace hc0 := hx0.cells
  replace hc1 := hx1.cells
  go_upto_region 4 with (fail)
  refine wp_region_held_drew (S := (fun w' => (w'.cell? ⟨w.heap.size, 0, none⟩ = some (.int .i64 k) ∧ w'.cell? ⟨w.heap.size, 1, none⟩ = some (.bool b) ∧ w'.cell? ⟨w.heap.size, 2, none⟩ = some (.int .i64 n) ∧ w'.cell? ⟨w.heap.size, 3, none⟩ = some (.string s) ∧ w'.cell? ⟨w.heap.size, 4, none⟩ = some (.slice A p.length c) ∧ w'.cell? ⟨b1, 0, none⟩ = some (.int .i64 k) ∧ w'.cell? ⟨b1, 1, none⟩ = some (.bool b) ∧ w'.cell? ⟨b1, 2, none⟩ = some (.int .i64 n) ∧ w'.cell? ⟨b1, 3, none⟩ = some (.string s) ∧ w'.cell? ⟨b1, 4, none⟩ = some (.slice A' p.length c')) ∧ w'.ownsRow Wb.heap.size 5 1 v5 X.length X)) (by kernel_rfl) ?_ (fun hHeld => ?_)
  · exact ⟨⟨hc0 0, hc0 1, hc0 2, hc0 3, hc0 4, hc1 0, hc1 1, hc1 2, hc1 3, hc1 4⟩, ho5⟩
  refine take_in (i := 0) (v := ?v0a) rfl (by kernel_rfl) (by kernel_rfl) (by kernel_rfl) (fun _ _ _ h => h) (by rfl) ?hy0a (by assumption) ?_
  case hy0a => intro WW hSw; (try dsimp only at hSw); go_simp; try with_reducible rfl
  try simp only [Act.put, List.setIfInBounds_toArray, List.set_cons_zero, List.set_cons_succ]
  refine take_in (i := 2) (v := ?v2a) rfl (by kernel_rfl) (by kernel_rfl) (by kernel_rfl) (fun _ _ _ h => h) (by rfl) ?hy2a (by assumption) ?_
  case hy2a => intro WW hSw; (try dsimp only at hSw); go_simp; try with_reducible rfl
  try simp only [Act.put, List.setIfInBounds_toArray, List.set_cons_zero, List.set_cons_succ]
  refine one_step (i := 1) (by kernel_rfl) rfl (fun K hK => ?_)
  go_simp
  (go_at_call 22; go_loud ((with_reducible refine (hR1 _ ?_).mono ?_); exact (by repeat (first | exact Below.refl _ _ | assumption | apply below_drew | apply below_drewn)); rintro e w9 ⟨rfl, hb9⟩; have HB9 : Below Wb.heap.size Wb w9 := below_then (by repeat (first | exact Below.refl _ _ | assumption | apply below_drew | apply below_drewn)) hb9; replace hx0 := boxV_next hb9 hx0; replace hx1 := boxV_next hb9 hx1; replace ho5 := own_next hb9 ho5; replace hc0 := hx0.cells; replace hc1 := hx1.cells))
  refine hK.out _ _ ?_ (fun hHeld => ?_)
  · exact ⟨⟨hc0 0, hc0 1, hc0 2, hc0 3, hc0 4, hc1 0, hc1 1, hc1 2, hc1 3, hc1 4⟩, ho5⟩
  clear hK K
  try simp only [Act.put, List.setIfInBounds_toArray, List.set_cons_zero, List.set_cons_succ]
  refine one_step (i := 3) (by kernel_rfl) rfl (fun K hK => ?_)
  go_simp
  (go_at_call 38; go_loud ((with_reducible refine (hR2 _ ?_).mono ?_); exact (by repeat (first | exact Below.refl _ _ | assumption | apply below_drew | apply below_drewn)); rintro e w9 ⟨rfl, hb9⟩; have HB9 : Below Wb.heap.size Wb w9 := below_then (by repeat (first | exact Below.refl _ _ | assumption | apply below_drew | apply below_drewn)) hb9; replace hx0 := boxV_next hb9 hx0; replace hx1 := boxV_next hb9 hx1; replace ho5 := own_next hb9 ho5; replace hc0 := hx0.cells; replace hc1 := hx1.cells))
  refine hK.out _ _ ?_ (fun hHeld => ?_)
  · exact ⟨⟨hc0 0, hc0 1, hc0 2, hc0 3, hc0 4, hc1 0, hc1 1, hc1 2, hc1 3, hc1 4⟩, ho5⟩
  clear hK K
  try simp only [Act.put, List.setIfInBounds_toArray, List.set_cons_zero, List.set_cons_succ]
  refine take_in (i := 4) (v := .bool true) rfl (by kernel_rfl) (by kernel_rfl) (by kernel_rfl) (fun _ _ _ h => h) (by rfl) ?hy4a (by assumption) ?_
  case hy4a => intro WW hSw; have hh := hRR; (try dsimp only at hSw); go_simp; try with_reducible rfl
  try simp only [Act.put, List.setIfInBounds_toArray, List.set_cons_zero, List.set_cons_succ]
  refine take_in (i := 5) (v := ?v5a) rfl (by kernel_rfl) (by kernel_rfl) (by kernel_rfl) (fun _ _ _ h => h) (by rfl) ?hy5a (by assumption) ?_
  case hy5a => intro WW hSw; (try dsimp only at hSw); go_simp; try with_reducible rfl
  try simp only [Act.put, List.setIfInBounds_toArray, List.set_cons_zero, List.set_cons_succ]
  refine take_in (i := 6) (v := ?v6a) rfl (by kernel_rfl) (by kernel_rfl) (by kernel_rfl) (fun _ _ _ h => h) (by rfl) ?hy6a (by assumption) ?_
  case hy6a => intro WW hSw; (try dsimp only at hSw); go_simp; try with_reducible rfl
  try simp only [Act.put, List.setIfInBounds_toArray, List.set_cons_zero, List.set_cons_succ]
  refine take_in (i := 8) (v := ?v8a) rfl (by kernel_rfl) (by kernel_rfl) (by kernel_rfl) (fun _ _ _ h => h) (by rfl) ?hy8a (by assumption) ?_
  case hy8a => intro WW hSw; (try dsimp only at hSw); go_simp; try with_reducible rfl
  try simp only [Act.put, List.setIfInBounds_toArray, List.set_cons_zero, List.set_cons_succ]
  refine one_step (i := 7) (by kernel_rfl) rfl (fun K hK => ?_)
  go_simp
  (go_at_call 39; go_loud ((with_reducible refine (hS1 _ ?_).mono ?_); exact (by repeat (first | exact Below.refl _ _ | assumption | apply below_drew | apply below_drewn)); rintro e w9 ⟨rfl, hb9⟩; have HB9 : Below Wb.heap.size Wb w9 := below_then (by repeat (first | exact Below.refl _ _ | assumption | apply below_drew | apply below_drewn)) hb9; replace hx0 := boxV_next hb9 hx0; replace hx1 := boxV_next hb9 hx1; replace ho5 := own_next hb9 ho5; replace hc0 := hx0.cells; replace hc1 := hx1.cells))
  refine hK.out _ _ ?_ (fun hHeld => ?_)
  · exact ⟨⟨hc0 0, hc0 1, hc0 2, hc0 3, hc0 4, hc1 0, hc1 1, hc1 2, hc1 3, hc1 4⟩, ho5⟩
  clear hK K
  try simp only [Act.put, List.setIfInBounds_toArray, List.set_cons_zero, List.set_cons_succ]
  refine one_step (i := 9) (by kernel_rfl) rfl (fun K hK => ?_)
  go_simp
  (go_at_call 40; go_loud ((with_reducible refine (hS2 _ ?_).mono ?_); exact (by repeat (first | exact Below.refl _ _ | assumption | apply below_drew | apply below_drewn)); rintro e w9 ⟨rfl, hb9⟩; have HB9 : Below Wb.heap.size Wb w9 := below_then (by repeat (first | exact Below.refl _ _ | assumption | apply below_drew | apply below_drewn)) hb9; replace hx0 := boxV_next hb9 hx0; replace hx1 := boxV_next hb9 hx1; replace ho5 := own_next hb9 ho5; replace hc0 := hx0.cells; replace hc1 := hx1.cells))
  refine hK.out _ _ ?_ (fun hHeld => ?_)
  · exact ⟨⟨hc0 0, hc0 1, hc0 2, hc0 3, hc0 4, hc1 0, hc1 1, hc1 2, hc1 3, hc1 4⟩, ho5⟩
  clear hK K
  try simp only [Act.put, List.setIfInBounds_toArray, List.set_cons_zero, List.set_cons_succ]
  refine take_in (i := 10) (v := .bool true) rfl (by kernel_rfl) (by kernel_rfl) (by kernel_rfl) (fun _ _ _ h => h) (by rfl) ?hy10a (by assumption) ?_
  case hy10a => intro WW hSw; have hh := hSS; (try dsimp only at hSw); go_simp; try with_reducible rfl
  try simp only [Act.put, List.setIfInBounds_toArray, List.set_cons_zero, List.set_cons_succ]
  refine take_in (i := 11) (v := ?v11a) rfl (by kernel_rfl) (by kernel_rfl) (by kernel_rfl) (fun _ _ _ h => h) (by rfl) ?hy11a (by assumption) ?_
  case hy11a => intro WW hSw; (try dsimp only at hSw); go_simp; try with_reducible rfl
  try simp only [Act.put, List.setIfInBounds_toArray, List.set_cons_zero, List.set_cons_succ]
  refine take_in (i := 12) (v := ?v12a) rfl (by kernel_rfl) (by kernel_rfl) (by kernel_rfl) (fun _ _ _ h => h) (by rfl) ?hy12a (by assumption) ?_
  case hy12a => intro WW hSw; (try dsimp only at hSw); go_simp; try with_reducible rfl
  try simp only [Act.put, List.setIfInBounds_toArray, List.set_cons_zero, List.set_cons_succ]
  refine take_in (i := 13) (v := ?v13a) rfl (by kernel_rfl) (by kernel_rfl) (by kernel_rfl) (fun _ _ _ h => h) (by rfl) ?hy13a (by assumption) ?_
  case hy13a => intro WW hSw; (try dsimp only at hSw); go_simp; try with_reducible rfl
  try simp only [Act.put, List.setIfInBounds_toArray, List.set_cons_zero, List.set_cons_succ]
  refine take_in (i := 14) (v := ?v14a) rfl (by kernel_rfl) (by kernel_rfl) (by kernel_rfl) (fun _ _ _ h => h) (by rfl) ?hy14a (by assumption) ?_
  case hy14a => intro WW hSw; have hcv := hcs _ _ _ hSw.2; (try dsimp only at hSw); go_simp; try with_reducible rfl
  try simp only [Act.put, List.setIfInBounds_toArray, List.set_cons_zero, List.set_cons_succ]
  refine take_in (i := 15) (v := ?v15a) rfl (by kernel_rfl) (by kernel_rfl) (by kernel_rfl) (fun _ _ _ h => h) (by rfl) ?hy15a (by assumption) ?_
  case hy15a => intro WW hSw; (try dsimp only at hSw); go_simp; try with_reducible rfl
  try simp only [Act.put, List.setIfInBounds_toArray, List.set_cons_zero, List.set_cons_succ]
  refine one_step (i := 16) (by kernel_rfl) rfl (fun K hK => ?_)
  go_simp
  (go_at_call 41; go_loud ((with_reducible refine (hE2 _ ?_).mono ?_); exact (by repeat (first | exact Below.refl _ _ | assumption | apply below_drew | apply below_drewn)); rintro e w9 ⟨v6, rfl, ho6, hb9⟩; have HB9 : Below Wb.heap.size Wb w9 := below_then (by repeat (first | exact Below.refl _ _ | assumption | apply below_drew | apply below_drewn)) hb9; replace hx0 := boxV_next hb9 hx0; replace hx1 := boxV_next hb9 hx1; replace ho5 := own_next hb9 ho5; replace hc0 := hx0.cells; replace hc1 := hx1.cells))
  refine hK.out _ _ ?_ (fun hHeld => ?_)
  · exact ⟨⟨hc0 0, hc0 1, hc0 2, hc0 3, hc0 4, hc1 0, hc1 1, hc1 2, hc1 3, hc1 4⟩, ho5⟩
  clear hK K
  obtain ⟨B6, ho6⟩ : ∃ B6, World.ownsRow _ B6 5 1 v6 X.length X := ⟨_, ho6⟩
  refine narrow (S' := (fun w' => ((w'.cell? ⟨w.heap.size, 0, none⟩ = some (.int .i64 k) ∧ w'.cell? ⟨w.heap.size, 1, none⟩ = some (.bool b) ∧ w'.cell? ⟨w.heap.size, 2, none⟩ = some (.int .i64 n) ∧ w'.cell? ⟨w.heap.size, 3, none⟩ = some (.string s) ∧ w'.cell? ⟨w.heap.size, 4, none⟩ = some (.slice A p.length c) ∧ w'.cell? ⟨b1, 0, none⟩ = some (.int .i64 k) ∧ w'.cell? ⟨b1, 1, none⟩ = some (.bool b) ∧ w'.cell? ⟨b1, 2, none⟩ = some (.int .i64 n) ∧ w'.cell? ⟨b1, 3, none⟩ = some (.string s) ∧ w'.cell? ⟨b1, 4, none⟩ = some (.slice A' p.length c')) ∧ w'.ownsRow Wb.heap.size 5 1 v5 X.length X) ∧ w'.ownsRow B6 5 1 v6 X.length X)) (fun _ h => h.1) _ _ _ _ ?_
  have hHeld6 := And.intro hHeld ho6
  clear hHeld
  try simp only [Act.put, List.setIfInBounds_toArray, List.set_cons_zero, List.set_cons_succ]
  refine take_in (i := 17) (v := ?v17a) rfl (by kernel_rfl) (by kernel_rfl) (by kernel_rfl) (fun _ _ _ h => h) (by rfl) ?hy17a (by assumption) ?_
  case hy17a => intro WW hSw; have hcv := hcs _ _ _ hSw.2; (try dsimp only at hSw); go_simp; try with_reducible rfl
  try simp only [Act.put, List.setIfInBounds_toArray, List.set_cons_zero, List.set_cons_succ]
  refine take_in (i := 18) (v := .bool true) rfl (by kernel_rfl) (by kernel_rfl) (by kernel_rfl) (fun _ _ _ h => h) (by rfl) ?hy18a (by assumption) ?_
  case hy18a => intro WW hSw; have hh := hTT; (try dsimp only at hSw); go_simp; try with_reducible rfl
  try simp only [Act.put, List.setIfInBounds_toArray, List.set_cons_zero, List.set_cons_succ]
  refine take_in (i := 19) (v := ?v19a) rfl (by kernel_rfl) (by kernel_rfl) (by kernel_rfl) (fun _ _ _ h => h) (by rfl) ?hy19a (by assumption) ?_
  case hy19a => intro WW hSw; (try dsimp only at hSw); go_simp; try with_reducible rfl
  try simp only [Act.put, List.setIfInBounds_toArray, List.set_cons_zero, List.set_cons_succ]
  refine take_in (i := 20) (v := ?v20a) rfl (by kernel_rfl) (by kernel_rfl) (by kernel_rfl) (fun _ _ _ h => h) (by rfl) ?hy20a (by assumption) ?_
  case hy20a => intro WW hSw; (try dsimp only at hSw); go_simp; try with_reducible rfl
  try simp only [Act.put, List.setIfInBounds_toArray, List.set_cons_zero, List.set_cons_succ]
  refine wpAnyH_done (by kernel_rfl) ?_ _
  clear hHeld6 ho6 hx0 hx1 hc0 hc1 hR1 hR2 hS1 hS2
  go_upto_region 5 with (fail)
  refine wp_region_held_drew (S := (fun w' : World => w'.cell? ⟨w.heap.size, 0, none⟩ = some (.int .i64 k) ∧ w'.cell? ⟨w.heap.size, 1, none⟩ = some (.bool b) ∧ w'.cell? ⟨w.heap.size, 2, none⟩ = some (.int .i64 n) ∧ w'.cell? ⟨w.heap.size, 3, none⟩ = some (.string s) ∧ w'.cell? ⟨w.heap.size, 4, none⟩ = some (.slice A p.length c) ∧ w'.cell? ⟨b1, 0, none⟩ = some (.int .i64 k) ∧ w'.cell? ⟨b1, 1, none⟩ = some (.bool b) ∧ w'.cell? ⟨b1, 2, none⟩ = some (.int .i64 n) ∧ w'.cell? ⟨b1, 3, none⟩ = some (.string s) ∧ w'.cell? ⟨b1, 4, none⟩ = some (.slice A' p.length c'))) (by kernel_rfl) ?_ (fun hHeld => ?_)
  · exact HCL.out _ (by repeat (first | exact Below.refl _ _ | assumption | apply below_drew | apply below_drewn))
  refine take_in (i := 0) (v := ?v0z1) rfl (by kernel_rfl) (by kernel_rfl) (by kernel_rfl) (fun _ _ _ h => h) (by rfl) ?hy0z1 (by assumption) ?_
  case hy0z1 => intro WW hSw; (try dsimp only at hSw); go_simp; try with_reducible rfl
  try simp only [Act.put, List.setIfInBounds_toArray, List.set_cons_zero, List.set_cons_succ]
  refine take_in (i := 1) (v := ?v1z2) rfl (by kernel_rfl) (by kernel_rfl) (by kernel_rfl) (fun _ _ _ h => h) (by rfl) ?hy1z2 (by assumption) ?_
  case hy1z2 => intro WW hSw; (try dsimp only at hSw); go_simp; try with_reducible rfl
  try simp only [Act.put, List.setIfInBounds_toArray, List.set_cons_zero, List.set_cons_succ]
  refine take_in (i := 4) (v := ?v4z3) rfl (by kernel_rfl) (by kernel_rfl) (by kernel_rfl) (fun _ _ _ h => h) (by rfl) ?hy4z3 (by assumption) ?_
  case hy4z3 => intro WW hSw; (try dsimp only at hSw); go_simp; try with_reducible rfl
  try simp only [Act.put, List.setIfInBounds_toArray, List.set_cons_zero, List.set_cons_succ]
  refine take_in (i := 5) (v := ?v5z4) rfl (by kernel_rfl) (by kernel_rfl) (by kernel_rfl) (fun _ _ _ h => h) (by rfl) ?hy5z4 (by assumption) ?_
  case hy5z4 => intro WW hSw; (try dsimp only at hSw); go_simp; try with_reducible rfl
  try simp only [Act.put, List.setIfInBounds_toArray, List.set_cons_zero, List.set_cons_succ]
  refine name_world (F := fun Y => Below Wb.heap.size Wb Y ∧ Y.ownsRow Wb.heap.size 5 1 v5 X.length X) ⟨(by repeat (first | exact Below.refl _ _ | assumption | apply below_drew | apply below_drewn)), ho5⟩ (fun Y0 hF => ?_)
  clear hHeld ho5 HB9
  obtain ⟨HBY0, hOY0⟩ := hF
  have hHeld : (fun w' : World => w'.cell? ⟨w.heap.size, 0, none⟩ = some (.int .i64 k) ∧ w'.cell? ⟨w.heap.size, 1, none⟩ = some (.bool b) ∧ w'.cell? ⟨w.heap.size, 2, none⟩ = some (.int .i64 n) ∧ w'.cell? ⟨w.heap.size, 3, none⟩ = some (.string s) ∧ w'.cell? ⟨w.heap.size, 4, none⟩ = some (.slice A p.length c) ∧ w'.cell? ⟨b1, 0, none⟩ = some (.int .i64 k) ∧ w'.cell? ⟨b1, 1, none⟩ = some (.bool b) ∧ w'.cell? ⟨b1, 2, none⟩ = some (.int .i64 n) ∧ w'.cell? ⟨b1, 3, none⟩ = some (.string s) ∧ w'.cell? ⟨b1, 4, none⟩ = some (.slice A' p.length c')) Y0 := HCL.out _ HBY0
  refine two_step (i := 2) (j := 6) (by kernel_rfl) rfl rfl (fun K hK => ?_) (fun K hK => ?_)
  · go_simp
    refine hK.out _ _ (HCL.out _ (below_more HBY0 _)) (fun hHeld => ?_)
    clear hHeld hK K
    try simp only [Act.put, List.setIfInBounds_toArray, List.set_cons_zero, List.set_cons_succ]
    refine name_world (F := fun Y => Below Wb.heap.size Wb Y ∧ Y.ownsRow Wb.heap.size 5 1 v5 X.length X ∧ ReadsV Y (some ⟨Y0.heap.size, 0, none⟩) [⟨k, n, b, s, A', p, c'⟩, ⟨k, n, b, s, A, p, c⟩]) ⟨below_more HBY0 _, hOY0.alloc _, reads_two Y0 ⟨k, n, b, s, A', p, c'⟩ ⟨k, n, b, s, A, p, c⟩ ((HHX.out.2).below HBY0) ((HHX.out.1).below HBY0) hn hn⟩ (fun Y1 hF => ?_)
    obtain ⟨HBY1, hOY1, hPY1⟩ := hF
    have hHeld : (fun w' : World => w'.cell? ⟨w.heap.size, 0, none⟩ = some (.int .i64 k) ∧ w'.cell? ⟨w.heap.size, 1, none⟩ = some (.bool b) ∧ w'.cell? ⟨w.heap.size, 2, none⟩ = some (.int .i64 n) ∧ w'.cell? ⟨w.heap.size, 3, none⟩ = some (.string s) ∧ w'.cell? ⟨w.heap.size, 4, none⟩ = some (.slice A p.length c) ∧ w'.cell? ⟨b1, 0, none⟩ = some (.int .i64 k) ∧ w'.cell? ⟨b1, 1, none⟩ = some (.bool b) ∧ w'.cell? ⟨b1, 2, none⟩ = some (.int .i64 n) ∧ w'.cell? ⟨b1, 3, none⟩ = some (.string s) ∧ w'.cell? ⟨b1, 4, none⟩ = some (.slice A' p.length c')) Y1 := HCL.out _ HBY1
    obtain ⟨g2, hgY0⟩ : ∃ g, g = Y0.heap.size := ⟨_, rfl⟩
    simp only [← hgY0] at hPY1 ⊢
    clear hgY0
    clear HBY0 hOY0
    refine two_step (i := 3) (j := 6) (by kernel_rfl) rfl rfl (fun K hK => ?_) (fun K hK => ?_)
    · go_simp
      go_at_call 42
      go_loud (refine (hG1 _ _ _ HBY1 hPY1).mono ?_)
      rintro e Z ⟨rfl, hbz⟩
      have HBZ : Below Wb.heap.size Wb Z := below_then HBY1 hbz
      refine hK.out _ _ (HCL.out _ HBZ) (fun hHeld => ?_)
      clear hHeld hK K
      try simp only [Act.put, List.setIfInBounds_toArray, List.set_cons_zero, List.set_cons_succ]
      refine name_world (F := fun Y => Below Wb.heap.size Wb Y ∧ Y.ownsRow Wb.heap.size 5 1 v5 X.length X) ⟨HBZ, own_next hbz hOY1⟩ (fun Y2 hF => ?_)
      obtain ⟨HBY2, hOY2⟩ := hF
      have hHeld : (fun w' : World => w'.cell? ⟨w.heap.size, 0, none⟩ = some (.int .i64 k) ∧ w'.cell? ⟨w.heap.size, 1, none⟩ = some (.bool b) ∧ w'.cell? ⟨w.heap.size, 2, none⟩ = some (.int .i64 n) ∧ w'.cell? ⟨w.heap.size, 3, none⟩ = some (.string s) ∧ w'.cell? ⟨w.heap.size, 4, none⟩ = some (.slice A p.length c) ∧ w'.cell? ⟨b1, 0, none⟩ = some (.int .i64 k) ∧ w'.cell? ⟨b1, 1, none⟩ = some (.bool b) ∧ w'.cell? ⟨b1, 2, none⟩ = some (.int .i64 n) ∧ w'.cell? ⟨b1, 3, none⟩ = some (.string s) ∧ w'.cell? ⟨b1, 4, none⟩ = some (.slice A' p.length c')) Y2 := HCL.out _ HBY2
      clear HBZ hbz
      clear HBY1 hOY1 hPY1
      refine one_step (i := 6) (by kernel_rfl) rfl (fun K hK => ?_)
      go_simp
      refine hK.out _ _ (HCL.out _ (below_more HBY2 _)) (fun hHeld => ?_)
      clear hHeld hK K
      try simp only [Act.put, List.setIfInBounds_toArray, List.set_cons_zero, List.set_cons_succ]
      refine name_world (F := fun Y => Below Wb.heap.size Wb Y ∧ Y.ownsRow Wb.heap.size 5 1 v5 X.length X ∧ ReadsV Y (some ⟨Y2.heap.size, 0, none⟩) [⟨k, n, b, s, A, p, c⟩, ⟨k, n, b, s, A, p, c⟩]) ⟨below_more HBY2 _, hOY2.alloc _, reads_two Y2 ⟨k, n, b, s, A, p, c⟩ ⟨k, n, b, s, A, p, c⟩ ((HHX.out.1).below HBY2) ((HHX.out.1).below HBY2) hn hn⟩ (fun Y3 hF => ?_)
      obtain ⟨HBY3, hOY3, hQY3⟩ := hF
      have hHeld : (fun w' : World => w'.cell? ⟨w.heap.size, 0, none⟩ = some (.int .i64 k) ∧ w'.cell? ⟨w.heap.size, 1, none⟩ = some (.bool b) ∧ w'.cell? ⟨w.heap.size, 2, none⟩ = some (.int .i64 n) ∧ w'.cell? ⟨w.heap.size, 3, none⟩ = some (.string s) ∧ w'.cell? ⟨w.heap.size, 4, none⟩ = some (.slice A p.length c) ∧ w'.cell? ⟨b1, 0, none⟩ = some (.int .i64 k) ∧ w'.cell? ⟨b1, 1, none⟩ = some (.bool b) ∧ w'.cell? ⟨b1, 2, none⟩ = some (.int .i64 n) ∧ w'.cell? ⟨b1, 3, none⟩ = some (.string s) ∧ w'.cell? ⟨b1, 4, none⟩ = some (.slice A' p.length c')) Y3 := HCL.out _ HBY3
      obtain ⟨g6, hgY2⟩ : ∃ g, g = Y2.heap.size := ⟨_, rfl⟩
      simp only [← hgY2] at hQY3 ⊢
      clear hgY2
      clear HBY2 hOY2
      refine one_step (i := 7) (by kernel_rfl) rfl (fun K hK => ?_)
      go_simp
      go_at_call 43
      go_loud (refine (hG2 _ _ _ HBY3 hQY3).mono ?_)
      rintro e Z ⟨rfl, hbz⟩
      have HBZ : Below Wb.heap.size Wb Z := below_then HBY3 hbz
      refine hK.out _ _ (HCL.out _ HBZ) (fun hHeld => ?_)
      clear hHeld hK K
      try simp only [Act.put, List.setIfInBounds_toArray, List.set_cons_zero, List.set_cons_succ]
      refine name_world (F := fun Y => Below Wb.heap.size Wb Y ∧ Y.ownsRow Wb.heap.size 5 1 v5 X.length X) ⟨HBZ, own_next hbz hOY3⟩ (fun Y4 hF => ?_)
      obtain ⟨HBY4, hOY4⟩ := hF
      have hHeld : (fun w' : World => w'.cell? ⟨w.heap.size, 0, none⟩ = some (.int .i64 k) ∧ w'.cell? ⟨w.heap.size, 1, none⟩ = some (.bool b) ∧ w'.cell? ⟨w.heap.size, 2, none⟩ = some (.int .i64 n) ∧ w'.cell? ⟨w.heap.size, 3, none⟩ = some (.string s) ∧ w'.cell? ⟨w.heap.size, 4, none⟩ = some (.slice A p.length c) ∧ w'.cell? ⟨b1, 0, none⟩ = some (.int .i64 k) ∧ w'.cell? ⟨b1, 1, none⟩ = some (.bool b) ∧ w'.cell? ⟨b1, 2, none⟩ = some (.int .i64 n) ∧ w'.cell? ⟨b1, 3, none⟩ = some (.string s) ∧ w'.cell? ⟨b1, 4, none⟩ = some (.slice A' p.length c')) Y4 := HCL.out _ HBY4
      clear HBZ hbz
      clear HBY3 hOY3 hQY3
      refine take_in (i := 8) (v := .bool true) rfl (by kernel_rfl) (by kernel_rfl) (by kernel_rfl) (fun _ _ _ h => h) (by rfl) ?hy8z5 (by assumption) ?_
      case hy8z5 => intro WW hSw; have hh := hXX; (try dsimp only at hSw); go_simp; try with_reducible rfl
      try simp only [Act.put, List.setIfInBounds_toArray, List.set_cons_zero, List.set_cons_succ]
      refine take_in (i := 9) (v := ?v9z6) rfl (by kernel_rfl) (by kernel_rfl) (by kernel_rfl) (fun _ _ _ h => h) (by rfl) ?hy9z6 (by assumption) ?_
      case hy9z6 => intro WW hSw; (try dsimp only at hSw); go_simp; try with_reducible rfl
      try simp only [Act.put, List.setIfInBounds_toArray, List.set_cons_zero, List.set_cons_succ]
      refine wpAnyH_done (by kernel_rfl) ?_ _
      have HY : Below Wb.heap.size Wb Y4 := HBY4
      have hOY := hOY4
      clear HBY4 hOY4
      obtain ⟨L, hL⟩ : ∃ L, L = X.length := ⟨_, rfl⟩
      obtain ⟨A5, c5, hv5, hL63, -⟩ := own_slice hOY
      subst hv5
      rw [← hL] at hOY hL63 ⊢
      have hOA := Aside0.mk (And.intro hOY (And.intro hL HU.out))
      clear hOY hL
      have hLi : (L : Int) ≤ 9223372036854775807 := by omega
      go_wp2
      go_loopg [8] (L + 1) (fun gg s8 wr => ∃ (i : Nat) (ys : List Value), i ≤ L ∧ L < gg + i ∧ s8 = .int .i64 i ∧ Below Wb.heap.size Wb wr ∧ Aside0 (wr.ownsRow Wb.heap.size 5 1 (.slice A5 L c5) L ys ∧ L = ys.length ∧ AllU8 ys))
      case atStart => exact ⟨0, X, by omega, by omega, rfl, by first | exact HY | exact below_drew HY | exact ⟨HY.os, HY.tape, HY.output, HY.size, HY.block⟩, ⟨hOA.out⟩⟩
      case round =>
        obtain ⟨i, ys, hi, hg, rfl, HBr, HI⟩ := hrel
        have hi0 : (0 : Int) ≤ (i : Int) := by omega
        by_cases hlt : i < L
        · have hlti : (i : Int) < (L : Int) := by omega
          obtain ⟨g5, cap5, he5⟩ : ∃ g cap, Value.slice A5 L c5 = .slice (some ⟨g, 0, none⟩) L cap := by
            rcases HI.out.1.2 with ⟨_, h0⟩ | ⟨g, cap, cur, h, _⟩
            · omega
            · exact ⟨g, cap, h⟩
          simp only [Value.slice.injEq, true_and] at he5
          obtain ⟨rfl, rfl⟩ := he5
          obtain ⟨y, hy⟩ := allU8_at HI.out.2.2 i (by have := HI.out.2.1; omega)
          have hcell := (HI.out.1.cellAt i (by omega)).trans hy
          have hfr := HI.out.1.frozenAt i
          have hst := fun z : Int => HI.out.1.stored i (.int .u8 z)
          have hgb : Wb.heap.size ≤ g5 := (HI.out.1.lt g5 rfl).1
          have HST := Aside0.mk hst
          have HGB := Aside0.mk hgb
          clear hy hst hgb
          go_wp2
          go_roundg (gk - 1)
          case measure => omega
          case rel =>
            refine ⟨i + 1, ys.set i (.int .u8 (IntKind.u8.wrap (y + 1))), by omega, by omega, by go_num, below_set HBr HGB.out _, ⟨(HST.out _).1, by rw [List.length_set]; exact HI.out.2.1, allU8_set HI.out.2.2 _ _⟩⟩
        · obtain rfl : i = L := by omega
          have hnlt : ¬ (i : Int) < (i : Int) := by omega
          clear HI hOA
          go_upto_region 10 with (fail)
          refine wp_region_held_drew (S := (fun w' : World => w'.cell? ⟨w.heap.size, 0, none⟩ = some (.int .i64 k) ∧ w'.cell? ⟨w.heap.size, 1, none⟩ = some (.bool b) ∧ w'.cell? ⟨w.heap.size, 2, none⟩ = some (.int .i64 n) ∧ w'.cell? ⟨w.heap.size, 3, none⟩ = some (.string s) ∧ w'.cell? ⟨w.heap.size, 4, none⟩ = some (.slice A p.length c) ∧ w'.cell? ⟨b1, 0, none⟩ = some (.int .i64 k) ∧ w'.cell? ⟨b1, 1, none⟩ = some (.bool b) ∧ w'.cell? ⟨b1, 2, none⟩ = some (.int .i64 n) ∧ w'.cell? ⟨b1, 3, none⟩ = some (.string s) ∧ w'.cell? ⟨b1, 4, none⟩ = some (.slice A' p.length c'))) (by kernel_rfl) ?_ (fun hHeld => ?_)
          · exact HCL.out _ (by repeat (first | exact Below.refl _ _ | assumption | apply below_drew | apply below_drewn))
          refine take_in (i := 0) (v := ?v0z7) rfl (by kernel_rfl) (by kernel_rfl) (by kernel_rfl) (fun _ _ _ h => h) (by rfl) ?hy0z7 (by assumption) ?_
          case hy0z7 => intro WW hSw; (try dsimp only at hSw); go_simp; try with_reducible rfl
          try simp only [Act.put, List.setIfInBounds_toArray, List.set_cons_zero, List.set_cons_succ]
          refine take_in (i := 1) (v := ?v1z8) rfl (by kernel_rfl) (by kernel_rfl) (by kernel_rfl) (fun _ _ _ h => h) (by rfl) ?hy1z8 (by assumption) ?_
          case hy1z8 => intro WW hSw; (try dsimp only at hSw); go_simp; try with_reducible rfl
          try simp only [Act.put, List.setIfInBounds_toArray, List.set_cons_zero, List.set_cons_succ]
          refine take_in (i := 2) (v := ?v2z9) rfl (by kernel_rfl) (by kernel_rfl) (by kernel_rfl) (fun _ _ _ h => h) (by rfl) ?hy2z9 (by assumption) ?_
          case hy2z9 => intro WW hSw; (try dsimp only at hSw); go_simp; try with_reducible rfl
          try simp only [Act.put, List.setIfInBounds_toArray, List.set_cons_zero, List.set_cons_succ]
          refine take_in (i := 3) (v := ?v3z10) rfl (by kernel_rfl) (by kernel_rfl) (by kernel_rfl) (fun _ _ _ h => h) (by rfl) ?hy3z10 (by assumption) ?_
          case hy3z10 => intro WW hSw; (try dsimp only at hSw); go_simp; try with_reducible rfl
          try simp only [Act.put, List.setIfInBounds_toArray, List.set_cons_zero, List.set_cons_succ]
          refine take_in (i := 4) (v := ?v4z11) rfl (by kernel_rfl) (by kernel_rfl) (by kernel_rfl) (fun _ _ _ h => h) (by rfl) ?hy4z11 (by assumption) ?_
          case hy4z11 => intro WW hSw; (try dsimp only at hSw); go_simp; try with_reducible rfl
          try simp only [Act.put, List.setIfInBounds_toArray, List.set_cons_zero, List.set_cons_succ]
          refine take_in (i := 5) (v := ?v5z12) rfl (by kernel_rfl) (by kernel_rfl) (by kernel_rfl) (fun _ _ _ h => h) (by rfl) ?hy5z12 (by assumption) ?_
          case hy5z12 => intro WW hSw; (try dsimp only at hSw); go_simp; try with_reducible rfl
          try simp only [Act.put, List.setIfInBounds_toArray, List.set_cons_zero, List.set_cons_succ]
          refine take_in (i := 6) (v := ?v6z13) rfl (by kernel_rfl) (by kernel_rfl) (by kernel_rfl) (fun _ _ _ h => h) (by rfl) ?hy6z13 (by assumption) ?_
          case hy6z13 => intro WW hSw; (try dsimp only at hSw); go_simp; try with_reducible rfl
          try simp only [Act.put, List.setIfInBounds_toArray, List.set_cons_zero, List.set_cons_succ]
          refine take_in (i := 7) (v := ?v7z14) rfl (by kernel_rfl) (by kernel_rfl) (by kernel_rfl) (fun _ _ _ h => h) (by rfl) ?hy7z14 (by assumption) ?_
          case hy7z14 => intro WW hSw; (try dsimp only at hSw); go_simp; try with_reducible rfl
          try simp only [Act.put, List.setIfInBounds_toArray, List.set_cons_zero, List.set_cons_succ]
          refine take_in (i := 8) (v := ?v8z15) rfl (by kernel_rfl) (by kernel_rfl) (by kernel_rfl) (fun _ _ _ h => h) (by rfl) ?hy8z15 (by assumption) ?_
          case hy8z15 => intro WW hSw; (try dsimp only at hSw); go_simp; try with_reducible rfl
          try simp only [Act.put, List.setIfInBounds_toArray, List.set_cons_zero, List.set_cons_succ]
          refine take_in (i := 9) (v := ?v9z16) rfl (by kernel_rfl) (by kernel_rfl) (by kernel_rfl) (fun _ _ _ h => h) (by rfl) ?hy9z16 (by assumption) ?_
          case hy9z16 => intro WW hSw; (try dsimp only at hSw); go_simp; try with_reducible rfl
          try simp only [Act.put, List.setIfInBounds_toArray, List.set_cons_zero, List.set_cons_succ]
          refine name_world (F := fun Y => Below Wb.heap.size Wb Y) (by repeat (first | exact Below.refl _ _ | assumption | apply below_drew | apply below_drewn)) (fun Z0 hF => ?_)
          clear hHeld HBr HY
          have HBZ0 := hF
          have hHeld : (fun w' : World => w'.cell? ⟨w.heap.size, 0, none⟩ = some (.int .i64 k) ∧ w'.cell? ⟨w.heap.size, 1, none⟩ = some (.bool b) ∧ w'.cell? ⟨w.heap.size, 2, none⟩ = some (.int .i64 n) ∧ w'.cell? ⟨w.heap.size, 3, none⟩ = some (.string s) ∧ w'.cell? ⟨w.heap.size, 4, none⟩ = some (.slice A p.length c) ∧ w'.cell? ⟨b1, 0, none⟩ = some (.int .i64 k) ∧ w'.cell? ⟨b1, 1, none⟩ = some (.bool b) ∧ w'.cell? ⟨b1, 2, none⟩ = some (.int .i64 n) ∧ w'.cell? ⟨b1, 3, none⟩ = some (.string s) ∧ w'.cell? ⟨b1, 4, none⟩ = some (.slice A' p.length c')) Z0 := HCL.out _ HBZ0
          refine one_step (i := 10) (by kernel_rfl) rfl (fun K hK => ?_)
          go_simp
          go_at_call 24
          go_loud (refine (hSa _ HBZ0).mono ?_)
          rintro e Z ⟨rfl, hbz⟩
          have HBZ : Below Wb.heap.size Wb Z := below_then HBZ0 hbz
          refine hK.out _ _ (HCL.out _ HBZ) (fun hHeld => ?_)
          clear hHeld hK K
          try simp only [Act.put, List.setIfInBounds_toArray, List.set_cons_zero, List.set_cons_succ]
          refine name_world (F := fun Y => Below Wb.heap.size Wb Y) HBZ (fun Z1 hF => ?_)
          have HBZ1 := hF
          have hHeld : (fun w' : World => w'.cell? ⟨w.heap.size, 0, none⟩ = some (.int .i64 k) ∧ w'.cell? ⟨w.heap.size, 1, none⟩ = some (.bool b) ∧ w'.cell? ⟨w.heap.size, 2, none⟩ = some (.int .i64 n) ∧ w'.cell? ⟨w.heap.size, 3, none⟩ = some (.string s) ∧ w'.cell? ⟨w.heap.size, 4, none⟩ = some (.slice A p.length c) ∧ w'.cell? ⟨b1, 0, none⟩ = some (.int .i64 k) ∧ w'.cell? ⟨b1, 1, none⟩ = some (.bool b) ∧ w'.cell? ⟨b1, 2, none⟩ = some (.int .i64 n) ∧ w'.cell? ⟨b1, 3, none⟩ = some (.string s) ∧ w'.cell? ⟨b1, 4, none⟩ = some (.slice A' p.length c')) Z1 := HCL.out _ HBZ1
          clear HBZ hbz HBZ0
          refine take_in (i := 11) (v := ?v11z17) rfl (by kernel_rfl) (by kernel_rfl) (by kernel_rfl) (fun _ _ _ h => h) (by rfl) ?hy11z17 (by assumption) ?_
          case hy11z17 => intro WW hSw; (try dsimp only at hSw); go_simp; try with_reducible rfl
          try simp only [Act.put, List.setIfInBounds_toArray, List.set_cons_zero, List.set_cons_succ]
          refine take_in (i := 12) (v := ?v12z18) rfl (by kernel_rfl) (by kernel_rfl) (by kernel_rfl) (fun _ _ _ h => h) (by rfl) ?hy12z18 (by assumption) ?_
          case hy12z18 => intro WW hSw; (try dsimp only at hSw); go_simp; try with_reducible rfl
          try simp only [Act.put, List.setIfInBounds_toArray, List.set_cons_zero, List.set_cons_succ]
          refine take_in (i := 13) (v := ?v13z19) rfl (by kernel_rfl) (by kernel_rfl) (by kernel_rfl) (fun _ _ _ h => h) (by rfl) ?hy13z19 (by assumption) ?_
          case hy13z19 => intro WW hSw; (try dsimp only at hSw); go_simp; try with_reducible rfl
          try simp only [Act.put, List.setIfInBounds_toArray, List.set_cons_zero, List.set_cons_succ]
          refine take_in (i := 16) (v := ?v16z20) rfl (by kernel_rfl) (by kernel_rfl) (by kernel_rfl) (fun _ _ _ h => h) (by rfl) ?hy16z20 (by assumption) ?_
          case hy16z20 => intro WW hSw; (try dsimp only at hSw); go_simp; try with_reducible rfl
          try simp only [Act.put, List.setIfInBounds_toArray, List.set_cons_zero, List.set_cons_succ]
          refine one_step (i := 14) (by kernel_rfl) rfl (fun K hK => ?_)
          go_simp
          go_at_call 23
          go_loud (refine (hE1 _ HBZ1).mono ?_)
          rintro e Z ⟨v8, rfl, ho8, hbz⟩
          have HBZ : Below Wb.heap.size Wb Z := below_then HBZ1 hbz
          refine hK.out _ _ (HCL.out _ HBZ) (fun hHeld => ?_)
          clear hHeld hK K
          try simp only [Act.put, List.setIfInBounds_toArray, List.set_cons_zero, List.set_cons_succ]
          refine name_world (F := fun Y => Below Wb.heap.size Wb Y ∧ Y.ownsRow Z1.heap.size 5 1 v8 X.length X) ⟨HBZ, ho8⟩ (fun Z2 hF => ?_)
          obtain ⟨HBZ2, ho82⟩ := hF
          have hHeld : (fun w' : World => w'.cell? ⟨w.heap.size, 0, none⟩ = some (.int .i64 k) ∧ w'.cell? ⟨w.heap.size, 1, none⟩ = some (.bool b) ∧ w'.cell? ⟨w.heap.size, 2, none⟩ = some (.int .i64 n) ∧ w'.cell? ⟨w.heap.size, 3, none⟩ = some (.string s) ∧ w'.cell? ⟨w.heap.size, 4, none⟩ = some (.slice A p.length c) ∧ w'.cell? ⟨b1, 0, none⟩ = some (.int .i64 k) ∧ w'.cell? ⟨b1, 1, none⟩ = some (.bool b) ∧ w'.cell? ⟨b1, 2, none⟩ = some (.int .i64 n) ∧ w'.cell? ⟨b1, 3, none⟩ = some (.string s) ∧ w'.cell? ⟨b1, 4, none⟩ = some (.slice A' p.length c')) Z2 := HCL.out _ HBZ2
          clear HBZ hbz HBZ1 ho8
          obtain ⟨B8, hB8⟩ : ∃ B8, B8 = Z1.heap.size := ⟨_, rfl⟩
          rw [← hB8] at ho82
          clear hB8
          refine narrow (S' := (fun w' : World => (w'.cell? ⟨w.heap.size, 0, none⟩ = some (.int .i64 k) ∧ w'.cell? ⟨w.heap.size, 1, none⟩ = some (.bool b) ∧ w'.cell? ⟨w.heap.size, 2, none⟩ = some (.int .i64 n) ∧ w'.cell? ⟨w.heap.size, 3, none⟩ = some (.string s) ∧ w'.cell? ⟨w.heap.size, 4, none⟩ = some (.slice A p.length c) ∧ w'.cell? ⟨b1, 0, none⟩ = some (.int .i64 k) ∧ w'.cell? ⟨b1, 1, none⟩ = some (.bool b) ∧ w'.cell? ⟨b1, 2, none⟩ = some (.int .i64 n) ∧ w'.cell? ⟨b1, 3, none⟩ = some (.string s) ∧ w'.cell? ⟨b1, 4, none⟩ = some (.slice A' p.length c')) ∧ w'.ownsRow B8 5 1 v8 X.length X)) (fun _ h => h.1) _ _ _ _ ?_
          have hHeld8 : (fun w' : World => (w'.cell? ⟨w.heap.size, 0, none⟩ = some (.int .i64 k) ∧ w'.cell? ⟨w.heap.size, 1, none⟩ = some (.bool b) ∧ w'.cell? ⟨w.heap.size, 2, none⟩ = some (.int .i64 n) ∧ w'.cell? ⟨w.heap.size, 3, none⟩ = some (.string s) ∧ w'.cell? ⟨w.heap.size, 4, none⟩ = some (.slice A p.length c) ∧ w'.cell? ⟨b1, 0, none⟩ = some (.int .i64 k) ∧ w'.cell? ⟨b1, 1, none⟩ = some (.bool b) ∧ w'.cell? ⟨b1, 2, none⟩ = some (.int .i64 n) ∧ w'.cell? ⟨b1, 3, none⟩ = some (.string s) ∧ w'.cell? ⟨b1, 4, none⟩ = some (.slice A' p.length c')) ∧ w'.ownsRow B8 5 1 v8 X.length X) Z2 := And.intro hHeld ho82
          clear hHeld
          refine take_in (i := 15) (v := ?v15z21) rfl (by kernel_rfl) (by kernel_rfl) (by kernel_rfl) (fun _ _ _ h => h) (by rfl) ?hy15z21 (by assumption) ?_
          case hy15z21 => intro WW hSw; have hcv := hcs _ _ _ hSw.2; (try dsimp only at hSw); go_simp; try with_reducible rfl
          try simp only [Act.put, List.setIfInBounds_toArray, List.set_cons_zero, List.set_cons_succ]
          refine one_step (i := 17) (by kernel_rfl) rfl (fun K hK => ?_)
          go_simp
          go_at_call 41
          go_loud (refine (hE2 _ HBZ2).mono ?_)
          rintro e Z ⟨v9, rfl, ho8, hbz⟩
          have HBZ : Below Wb.heap.size Wb Z := below_then HBZ2 hbz
          have ho83 := own_next hbz ho82
          clear hHeld8
          refine hK.out _ _ ⟨HCL.out _ HBZ, ho83⟩ (fun hHeld => ?_)
          clear hHeld hK K
          try simp only [Act.put, List.setIfInBounds_toArray, List.set_cons_zero, List.set_cons_succ]
          refine name_world (F := fun Y => Below Wb.heap.size Wb Y ∧ Y.ownsRow B8 5 1 v8 X.length X ∧ Y.ownsRow Z2.heap.size 5 1 v9 X.length X) ⟨HBZ, ho83, ho8⟩ (fun Z5 hF => ?_)
          obtain ⟨HBZ5, ho84, ho85⟩ := hF
          have hHeld : (fun w' : World => (w'.cell? ⟨w.heap.size, 0, none⟩ = some (.int .i64 k) ∧ w'.cell? ⟨w.heap.size, 1, none⟩ = some (.bool b) ∧ w'.cell? ⟨w.heap.size, 2, none⟩ = some (.int .i64 n) ∧ w'.cell? ⟨w.heap.size, 3, none⟩ = some (.string s) ∧ w'.cell? ⟨w.heap.size, 4, none⟩ = some (.slice A p.length c) ∧ w'.cell? ⟨b1, 0, none⟩ = some (.int .i64 k) ∧ w'.cell? ⟨b1, 1, none⟩ = some (.bool b) ∧ w'.cell? ⟨b1, 2, none⟩ = some (.int .i64 n) ∧ w'.cell? ⟨b1, 3, none⟩ = some (.string s) ∧ w'.cell? ⟨b1, 4, none⟩ = some (.slice A' p.length c')) ∧ w'.ownsRow B8 5 1 v8 X.length X) Z5 := ⟨HCL.out _ HBZ5, ho84⟩
          clear HBZ hbz ho8 ho83
          obtain ⟨B9, hB9⟩ : ∃ B9, B9 = Z2.heap.size := ⟨_, rfl⟩
          rw [← hB9] at ho85
          clear hB9 HBZ2 ho82
          refine narrow (S' := (fun w' : World => ((w'.cell? ⟨w.heap.size, 0, none⟩ = some (.int .i64 k) ∧ w'.cell? ⟨w.heap.size, 1, none⟩ = some (.bool b) ∧ w'.cell? ⟨w.heap.size, 2, none⟩ = some (.int .i64 n) ∧ w'.cell? ⟨w.heap.size, 3, none⟩ = some (.string s) ∧ w'.cell? ⟨w.heap.size, 4, none⟩ = some (.slice A p.length c) ∧ w'.cell? ⟨b1, 0, none⟩ = some (.int .i64 k) ∧ w'.cell? ⟨b1, 1, none⟩ = some (.bool b) ∧ w'.cell? ⟨b1, 2, none⟩ = some (.int .i64 n) ∧ w'.cell? ⟨b1, 3, none⟩ = some (.string s) ∧ w'.cell? ⟨b1, 4, none⟩ = some (.slice A' p.length c')) ∧ w'.ownsRow B8 5 1 v8 X.length X) ∧ w'.ownsRow B9 5 1 v9 X.length X)) (fun _ h => h.1) _ _ _ _ ?_
          have hHeld9 : (fun w' : World => ((w'.cell? ⟨w.heap.size, 0, none⟩ = some (.int .i64 k) ∧ w'.cell? ⟨w.heap.size, 1, none⟩ = some (.bool b) ∧ w'.cell? ⟨w.heap.size, 2, none⟩ = some (.int .i64 n) ∧ w'.cell? ⟨w.heap.size, 3, none⟩ = some (.string s) ∧ w'.cell? ⟨w.heap.size, 4, none⟩ = some (.slice A p.length c) ∧ w'.cell? ⟨b1, 0, none⟩ = some (.int .i64 k) ∧ w'.cell? ⟨b1, 1, none⟩ = some (.bool b) ∧ w'.cell? ⟨b1, 2, none⟩ = some (.int .i64 n) ∧ w'.cell? ⟨b1, 3, none⟩ = some (.string s) ∧ w'.cell? ⟨b1, 4, none⟩ = some (.slice A' p.length c')) ∧ w'.ownsRow B8 5 1 v8 X.length X) ∧ w'.ownsRow B9 5 1 v9 X.length X) Z5 := And.intro hHeld ho85
          clear hHeld
          refine take_in (i := 18) (v := ?v18z22) rfl (by kernel_rfl) (by kernel_rfl) (by kernel_rfl) (fun _ _ _ h => h) (by rfl) ?hy18z22 (by assumption) ?_
          case hy18z22 => intro WW hSw; have hcv := hcs _ _ _ hSw.2; (try dsimp only at hSw); go_simp; try with_reducible rfl
          try simp only [Act.put, List.setIfInBounds_toArray, List.set_cons_zero, List.set_cons_succ]
          refine take_in (i := 19) (v := .bool true) rfl (by kernel_rfl) (by kernel_rfl) (by kernel_rfl) (fun _ _ _ h => h) (by rfl) ?hy19z23 (by assumption) ?_
          case hy19z23 => intro WW hSw; have hh := hTT; (try dsimp only at hSw); go_simp; try with_reducible rfl
          try simp only [Act.put, List.setIfInBounds_toArray, List.set_cons_zero, List.set_cons_succ]
          refine take_in (i := 20) (v := ?v20z24) rfl (by kernel_rfl) (by kernel_rfl) (by kernel_rfl) (fun _ _ _ h => h) (by rfl) ?hy20z24 (by assumption) ?_
          case hy20z24 => intro WW hSw; (try dsimp only at hSw); go_simp; try with_reducible rfl
          try simp only [Act.put, List.setIfInBounds_toArray, List.set_cons_zero, List.set_cons_succ]
          refine take_in (i := 21) (v := ?v21z25) rfl (by kernel_rfl) (by kernel_rfl) (by kernel_rfl) (fun _ _ _ h => h) (by rfl) ?hy21z25 (by assumption) ?_
          case hy21z25 => intro WW hSw; (try dsimp only at hSw); go_simp; try with_reducible rfl
          try simp only [Act.put, List.setIfInBounds_toArray, List.set_cons_zero, List.set_cons_succ]
          refine wpAnyH_done (by kernel_rfl) ?_ _
          have HEND : Below w.heap.size w Z5 := below_then HBb HBZ5
          go_wp2
          go_ret
          exact ⟨rfl, by first | exact HEND | exact below_drew HEND | exact ⟨HEND.os, HEND.tape, HEND.output, HEND.size, HEND.block⟩⟩
    · go_simp
      refine hK.out _ _ (HCL.out _ (below_more HBY1 _)) (fun hHeld => ?_)
      clear hHeld hK K
      try simp only [Act.put, List.setIfInBounds_toArray, List.set_cons_zero, List.set_cons_succ]
      refine name_world (F := fun Y => Below Wb.heap.size Wb Y ∧ Y.ownsRow Wb.heap.size 5 1 v5 X.length X ∧ ReadsV Y (some ⟨g2, 0, none⟩) [⟨k, n, b, s, A', p, c'⟩, ⟨k, n, b, s, A, p, c⟩] ∧ ReadsV Y (some ⟨Y1.heap.size, 0, none⟩) [⟨k, n, b, s, A, p, c⟩, ⟨k, n, b, s, A, p, c⟩]) ⟨below_more HBY1 _, hOY1.alloc _, hPY1.below (below_alloc _), reads_two Y1 ⟨k, n, b, s, A, p, c⟩ ⟨k, n, b, s, A, p, c⟩ ((HHX.out.1).below HBY1) ((HHX.out.1).below HBY1) hn hn⟩ (fun Y2 hF => ?_)
      obtain ⟨HBY2, hOY2, hPY2, hQY2⟩ := hF
      have hHeld : (fun w' : World => w'.cell? ⟨w.heap.size, 0, none⟩ = some (.int .i64 k) ∧ w'.cell? ⟨w.heap.size, 1, none⟩ = some (.bool b) ∧ w'.cell? ⟨w.heap.size, 2, none⟩ = some (.int .i64 n) ∧ w'.cell? ⟨w.heap.size, 3, none⟩ = some (.string s) ∧ w'.cell? ⟨w.heap.size, 4, none⟩ = some (.slice A p.length c) ∧ w'.cell? ⟨b1, 0, none⟩ = some (.int .i64 k) ∧ w'.cell? ⟨b1, 1, none⟩ = some (.bool b) ∧ w'.cell? ⟨b1, 2, none⟩ = some (.int .i64 n) ∧ w'.cell? ⟨b1, 3, none⟩ = some (.string s) ∧ w'.cell? ⟨b1, 4, none⟩ = some (.slice A' p.length c')) Y2 := HCL.out _ HBY2
      obtain ⟨g6, hgY1⟩ : ∃ g, g = Y1.heap.size := ⟨_, rfl⟩
      simp only [← hgY1] at hQY2 ⊢
      clear hgY1
      clear HBY1 hOY1 hPY1
      refine one_step (i := 3) (by kernel_rfl) rfl (fun K hK => ?_)
      go_simp
      go_at_call 42
      go_loud (refine (hG1 _ _ _ HBY2 hPY2).mono ?_)
      rintro e Z ⟨rfl, hbz⟩
      have HBZ : Below Wb.heap.size Wb Z := below_then HBY2 hbz
      refine hK.out _ _ (HCL.out _ HBZ) (fun hHeld => ?_)
      clear hHeld hK K
      try simp only [Act.put, List.setIfInBounds_toArray, List.set_cons_zero, List.set_cons_succ]
      refine name_world (F := fun Y => Below Wb.heap.size Wb Y ∧ Y.ownsRow Wb.heap.size 5 1 v5 X.length X ∧ ReadsV Y (some ⟨g6, 0, none⟩) [⟨k, n, b, s, A, p, c⟩, ⟨k, n, b, s, A, p, c⟩]) ⟨HBZ, own_next hbz hOY2, hQY2.below hbz⟩ (fun Y3 hF => ?_)
      obtain ⟨HBY3, hOY3, hQY3⟩ := hF
      have hHeld : (fun w' : World => w'.cell? ⟨w.heap.size, 0, none⟩ = some (.int .i64 k) ∧ w'.cell? ⟨w.heap.size, 1, none⟩ = some (.bool b) ∧ w'.cell? ⟨w.heap.size, 2, none⟩ = some (.int .i64 n) ∧ w'.cell? ⟨w.heap.size, 3, none⟩ = some (.string s) ∧ w'.cell? ⟨w.heap.size, 4, none⟩ = some (.slice A p.length c) ∧ w'.cell? ⟨b1, 0, none⟩ = some (.int .i64 k) ∧ w'.cell? ⟨b1, 1, none⟩ = some (.bool b) ∧ w'.cell? ⟨b1, 2, none⟩ = some (.int .i64 n) ∧ w'.cell? ⟨b1, 3, none⟩ = some (.string s) ∧ w'.cell? ⟨b1, 4, none⟩ = some (.slice A' p.length c')) Y3 := HCL.out _ HBY3
      clear HBZ hbz
      clear HBY2 hOY2 hPY2 hQY2
      refine one_step (i := 7) (by kernel_rfl) rfl (fun K hK => ?_)
      go_simp
      go_at_call 43
      go_loud (refine (hG2 _ _ _ HBY3 hQY3).mono ?_)
      rintro e Z ⟨rfl, hbz⟩
      have HBZ : Below Wb.heap.size Wb Z := below_then HBY3 hbz
      refine hK.out _ _ (HCL.out _ HBZ) (fun hHeld => ?_)
      clear hHeld hK K
      try simp only [Act.put, List.setIfInBounds_toArray, List.set_cons_zero, List.set_cons_succ]
      refine name_world (F := fun Y => Below Wb.heap.size Wb Y ∧ Y.ownsRow Wb.heap.size 5 1 v5 X.length X) ⟨HBZ, own_next hbz hOY3⟩ (fun Y4 hF => ?_)
      obtain ⟨HBY4, hOY4⟩ := hF
      have hHeld : (fun w' : World => w'.cell? ⟨w.heap.size, 0, none⟩ = some (.int .i64 k) ∧ w'.cell? ⟨w.heap.size, 1, none⟩ = some (.bool b) ∧ w'.cell? ⟨w.heap.size, 2, none⟩ = some (.int .i64 n) ∧ w'.cell? ⟨w.heap.size, 3, none⟩ = some (.string s) ∧ w'.cell? ⟨w.heap.size, 4, none⟩ = some (.slice A p.length c) ∧ w'.cell? ⟨b1, 0, none⟩ = some (.int .i64 k) ∧ w'.cell? ⟨b1, 1, none⟩ = some (.bool b) ∧ w'.cell? ⟨b1, 2, none⟩ = some (.int .i64 n) ∧ w'.cell? ⟨b1, 3, none⟩ = some (.string s) ∧ w'.cell? ⟨b1, 4, none⟩ = some (.slice A' p.length c')) Y4 := HCL.out _ HBY4
      clear HBZ hbz
      clear HBY3 hOY3 hQY3
      refine take_in (i := 8) (v := .bool true) rfl (by kernel_rfl) (by kernel_rfl) (by kernel_rfl) (fun _ _ _ h => h) (by rfl) ?hy8z26 (by assumption) ?_
      case hy8z26 => intro WW hSw; have hh := hXX; (try dsimp only at hSw); go_simp; try with_reducible rfl
      try simp only [Act.put, List.setIfInBounds_toArray, List.set_cons_zero, List.set_cons_succ]
      refine take_in (i := 9) (v := ?v9z27) rfl (by kernel_rfl) (by kernel_rfl) (by kernel_rfl) (fun _ _ _ h => h) (by rfl) ?hy9z27 (by assumption) ?_
      case hy9z27 => intro WW hSw; (try dsimp only at hSw); go_simp; try with_reducible rfl
      try simp only [Act.put, List.setIfInBounds_toArray, List.set_cons_zero, List.set_cons_succ]
      refine wpAnyH_done (by kernel_rfl) ?_ _
      have HY : Below Wb.heap.size Wb Y4 := HBY4
      have hOY := hOY4
      clear HBY4 hOY4
      obtain ⟨L, hL⟩ : ∃ L, L = X.length := ⟨_, rfl⟩
      obtain ⟨A5, c5, hv5, hL63, -⟩ := own_slice hOY
      subst hv5
      rw [← hL] at hOY hL63 ⊢
      have hOA := Aside0.mk (And.intro hOY (And.intro hL HU.out))
      clear hOY hL
      have hLi : (L : Int) ≤ 9223372036854775807 := by omega
      go_wp2
      go_loopg [8] (L + 1) (fun gg s8 wr => ∃ (i : Nat) (ys : List Value), i ≤ L ∧ L < gg + i ∧ s8 = .int .i64 i ∧ Below Wb.heap.size Wb wr ∧ Aside0 (wr.ownsRow Wb.heap.size 5 1 (.slice A5 L c5) L ys ∧ L = ys.length ∧ AllU8 ys))
      case atStart => exact ⟨0, X, by omega, by omega, rfl, by first | exact HY | exact below_drew HY | exact ⟨HY.os, HY.tape, HY.output, HY.size, HY.block⟩, ⟨hOA.out⟩⟩
      case round =>
        obtain ⟨i, ys, hi, hg, rfl, HBr, HI⟩ := hrel
        have hi0 : (0 : Int) ≤ (i : Int) := by omega
        by_cases hlt : i < L
        · have hlti : (i : Int) < (L : Int) := by omega
          obtain ⟨g5, cap5, he5⟩ : ∃ g cap, Value.slice A5 L c5 = .slice (some ⟨g, 0, none⟩) L cap := by
            rcases HI.out.1.2 with ⟨_, h0⟩ | ⟨g, cap, cur, h, _⟩
            · omega
            · exact ⟨g, cap, h⟩
          simp only [Value.slice.injEq, true_and] at he5
          obtain ⟨rfl, rfl⟩ := he5
          obtain ⟨y, hy⟩ := allU8_at HI.out.2.2 i (by have := HI.out.2.1; omega)
          have hcell := (HI.out.1.cellAt i (by omega)).trans hy
          have hfr := HI.out.1.frozenAt i
          have hst := fun z : Int => HI.out.1.stored i (.int .u8 z)
          have hgb : Wb.heap.size ≤ g5 := (HI.out.1.lt g5 rfl).1
          have HST := Aside0.mk hst
          have HGB := Aside0.mk hgb
          clear hy hst hgb
          go_wp2
          go_roundg (gk - 1)
          case measure => omega
          case rel =>
            refine ⟨i + 1, ys.set i (.int .u8 (IntKind.u8.wrap (y + 1))), by omega, by omega, by go_num, below_set HBr HGB.out _, ⟨(HST.out _).1, by rw [List.length_set]; exact HI.out.2.1, allU8_set HI.out.2.2 _ _⟩⟩
        · obtain rfl : i = L := by omega
          have hnlt : ¬ (i : Int) < (i : Int) := by omega
          clear HI hOA
          go_upto_region 10 with (fail)
          refine wp_region_held_drew (S := (fun w' : World => w'.cell? ⟨w.heap.size, 0, none⟩ = some (.int .i64 k) ∧ w'.cell? ⟨w.heap.size, 1, none⟩ = some (.bool b) ∧ w'.cell? ⟨w.heap.size, 2, none⟩ = some (.int .i64 n) ∧ w'.cell? ⟨w.heap.size, 3, none⟩ = some (.string s) ∧ w'.cell? ⟨w.heap.size, 4, none⟩ = some (.slice A p.length c) ∧ w'.cell? ⟨b1, 0, none⟩ = some (.int .i64 k) ∧ w'.cell? ⟨b1, 1, none⟩ = some (.bool b) ∧ w'.cell? ⟨b1, 2, none⟩ = some (.int .i64 n) ∧ w'.cell? ⟨b1, 3, none⟩ = some (.string s) ∧ w'.cell? ⟨b1, 4, none⟩ = some (.slice A' p.length c'))) (by kernel_rfl) ?_ (fun hHeld => ?_)
          · exact HCL.out _ (by repeat (first | exact Below.refl _ _ | assumption | apply below_drew | apply below_drewn))
          refine take_in (i := 0) (v := ?v0z28) rfl (by kernel_rfl) (by kernel_rfl) (by kernel_rfl) (fun _ _ _ h => h) (by rfl) ?hy0z28 (by assumption) ?_
          case hy0z28 => intro WW hSw; (try dsimp only at hSw); go_simp; try with_reducible rfl
          try simp only [Act.put, List.setIfInBounds_toArray, List.set_cons_zero, List.set_cons_succ]
          refine take_in (i := 1) (v := ?v1z29) rfl (by kernel_rfl) (by kernel_rfl) (by kernel_rfl) (fun _ _ _ h => h) (by rfl) ?hy1z29 (by assumption) ?_
          case hy1z29 => intro WW hSw; (try dsimp only at hSw); go_simp; try with_reducible rfl
          try simp only [Act.put, List.setIfInBounds_toArray, List.set_cons_zero, List.set_cons_succ]
          refine take_in (i := 2) (v := ?v2z30) rfl (by kernel_rfl) (by kernel_rfl) (by kernel_rfl) (fun _ _ _ h => h) (by rfl) ?hy2z30 (by assumption) ?_
          case hy2z30 => intro WW hSw; (try dsimp only at hSw); go_simp; try with_reducible rfl
          try simp only [Act.put, List.setIfInBounds_toArray, List.set_cons_zero, List.set_cons_succ]
          refine take_in (i := 3) (v := ?v3z31) rfl (by kernel_rfl) (by kernel_rfl) (by kernel_rfl) (fun _ _ _ h => h) (by rfl) ?hy3z31 (by assumption) ?_
          case hy3z31 => intro WW hSw; (try dsimp only at hSw); go_simp; try with_reducible rfl
          try simp only [Act.put, List.setIfInBounds_toArray, List.set_cons_zero, List.set_cons_succ]
          refine take_in (i := 4) (v := ?v4z32) rfl (by kernel_rfl) (by kernel_rfl) (by kernel_rfl) (fun _ _ _ h => h) (by rfl) ?hy4z32 (by assumption) ?_
          case hy4z32 => intro WW hSw; (try dsimp only at hSw); go_simp; try with_reducible rfl
          try simp only [Act.put, List.setIfInBounds_toArray, List.set_cons_zero, List.set_cons_succ]
          refine take_in (i := 5) (v := ?v5z33) rfl (by kernel_rfl) (by kernel_rfl) (by kernel_rfl) (fun _ _ _ h => h) (by rfl) ?hy5z33 (by assumption) ?_
          case hy5z33 => intro WW hSw; (try dsimp only at hSw); go_simp; try with_reducible rfl
          try simp only [Act.put, List.setIfInBounds_toArray, List.set_cons_zero, List.set_cons_succ]
          refine take_in (i := 6) (v := ?v6z34) rfl (by kernel_rfl) (by kernel_rfl) (by kernel_rfl) (fun _ _ _ h => h) (by rfl) ?hy6z34 (by assumption) ?_
          case hy6z34 => intro WW hSw; (try dsimp only at hSw); go_simp; try with_reducible rfl
          try simp only [Act.put, List.setIfInBounds_toArray, List.set_cons_zero, List.set_cons_succ]
          refine take_in (i := 7) (v := ?v7z35) rfl (by kernel_rfl) (by kernel_rfl) (by kernel_rfl) (fun _ _ _ h => h) (by rfl) ?hy7z35 (by assumption) ?_
          case hy7z35 => intro WW hSw; (try dsimp only at hSw); go_simp; try with_reducible rfl
          try simp only [Act.put, List.setIfInBounds_toArray, List.set_cons_zero, List.set_cons_succ]
          refine take_in (i := 8) (v := ?v8z36) rfl (by kernel_rfl) (by kernel_rfl) (by kernel_rfl) (fun _ _ _ h => h) (by rfl) ?hy8z36 (by assumption) ?_
          case hy8z36 => intro WW hSw; (try dsimp only at hSw); go_simp; try with_reducible rfl
          try simp only [Act.put, List.setIfInBounds_toArray, List.set_cons_zero, List.set_cons_succ]
          refine take_in (i := 9) (v := ?v9z37) rfl (by kernel_rfl) (by kernel_rfl) (by kernel_rfl) (fun _ _ _ h => h) (by rfl) ?hy9z37 (by assumption) ?_
          case hy9z37 => intro WW hSw; (try dsimp only at hSw); go_simp; try with_reducible rfl
          try simp only [Act.put, List.setIfInBounds_toArray, List.set_cons_zero, List.set_cons_succ]
          refine name_world (F := fun Y => Below Wb.heap.size Wb Y) (by repeat (first | exact Below.refl _ _ | assumption | apply below_drew | apply below_drewn)) (fun Z0 hF => ?_)
          clear hHeld HBr HY
          have HBZ0 := hF
          have hHeld : (fun w' : World => w'.cell? ⟨w.heap.size, 0, none⟩ = some (.int .i64 k) ∧ w'.cell? ⟨w.heap.size, 1, none⟩ = some (.bool b) ∧ w'.cell? ⟨w.heap.size, 2, none⟩ = some (.int .i64 n) ∧ w'.cell? ⟨w.heap.size, 3, none⟩ = some (.string s) ∧ w'.cell? ⟨w.heap.size, 4, none⟩ = some (.slice A p.length c) ∧ w'.cell? ⟨b1, 0, none⟩ = some (.int .i64 k) ∧ w'.cell? ⟨b1, 1, none⟩ = some (.bool b) ∧ w'.cell? ⟨b1, 2, none⟩ = some (.int .i64 n) ∧ w'.cell? ⟨b1, 3, none⟩ = some (.string s) ∧ w'.cell? ⟨b1, 4, none⟩ = some (.slice A' p.length c')) Z0 := HCL.out _ HBZ0
          refine one_step (i := 10) (by kernel_rfl) rfl (fun K hK => ?_)
          go_simp
          go_at_call 24
          go_loud (refine (hSa _ HBZ0).mono ?_)
          rintro e Z ⟨rfl, hbz⟩
          have HBZ : Below Wb.heap.size Wb Z := below_then HBZ0 hbz
          refine hK.out _ _ (HCL.out _ HBZ) (fun hHeld => ?_)
          clear hHeld hK K
          try simp only [Act.put, List.setIfInBounds_toArray, List.set_cons_zero, List.set_cons_succ]
          refine name_world (F := fun Y => Below Wb.heap.size Wb Y) HBZ (fun Z1 hF => ?_)
          have HBZ1 := hF
          have hHeld : (fun w' : World => w'.cell? ⟨w.heap.size, 0, none⟩ = some (.int .i64 k) ∧ w'.cell? ⟨w.heap.size, 1, none⟩ = some (.bool b) ∧ w'.cell? ⟨w.heap.size, 2, none⟩ = some (.int .i64 n) ∧ w'.cell? ⟨w.heap.size, 3, none⟩ = some (.string s) ∧ w'.cell? ⟨w.heap.size, 4, none⟩ = some (.slice A p.length c) ∧ w'.cell? ⟨b1, 0, none⟩ = some (.int .i64 k) ∧ w'.cell? ⟨b1, 1, none⟩ = some (.bool b) ∧ w'.cell? ⟨b1, 2, none⟩ = some (.int .i64 n) ∧ w'.cell? ⟨b1, 3, none⟩ = some (.string s) ∧ w'.cell? ⟨b1, 4, none⟩ = some (.slice A' p.length c')) Z1 := HCL.out _ HBZ1
          clear HBZ hbz HBZ0
          refine take_in (i := 11) (v := ?v11z38) rfl (by kernel_rfl) (by kernel_rfl) (by kernel_rfl) (fun _ _ _ h => h) (by rfl) ?hy11z38 (by assumption) ?_
          case hy11z38 => intro WW hSw; (try dsimp only at hSw); go_simp; try with_reducible rfl
          try simp only [Act.put, List.setIfInBounds_toArray, List.set_cons_zero, List.set_cons_succ]
          refine take_in (i := 12) (v := ?v12z39) rfl (by kernel_rfl) (by kernel_rfl) (by kernel_rfl) (fun _ _ _ h => h) (by rfl) ?hy12z39 (by assumption) ?_
          case hy12z39 => intro WW hSw; (try dsimp only at hSw); go_simp; try with_reducible rfl
          try simp only [Act.put, List.setIfInBounds_toArray, List.set_cons_zero, List.set_cons_succ]
          refine take_in (i := 13) (v := ?v13z40) rfl (by kernel_rfl) (by kernel_rfl) (by kernel_rfl) (fun _ _ _ h => h) (by rfl) ?hy13z40 (by assumption) ?_
          case hy13z40 => intro WW hSw; (try dsimp only at hSw); go_simp; try with_reducible rfl
          try simp only [Act.put, List.setIfInBounds_toArray, List.set_cons_zero, List.set_cons_succ]
          refine take_in (i := 16) (v := ?v16z41) rfl (by kernel_rfl) (by kernel_rfl) (by kernel_rfl) (fun _ _ _ h => h) (by rfl) ?hy16z41 (by assumption) ?_
          case hy16z41 => intro WW hSw; (try dsimp only at hSw); go_simp; try with_reducible rfl
          try simp only [Act.put, List.setIfInBounds_toArray, List.set_cons_zero, List.set_cons_succ]
          refine one_step (i := 14) (by kernel_rfl) rfl (fun K hK => ?_)
          go_simp
          go_at_call 23
          go_loud (refine (hE1 _ HBZ1).mono ?_)
          rintro e Z ⟨v8, rfl, ho8, hbz⟩
          have HBZ : Below Wb.heap.size Wb Z := below_then HBZ1 hbz
          refine hK.out _ _ (HCL.out _ HBZ) (fun hHeld => ?_)
          clear hHeld hK K
          try simp only [Act.put, List.setIfInBounds_toArray, List.set_cons_zero, List.set_cons_succ]
          refine name_world (F := fun Y => Below Wb.heap.size Wb Y ∧ Y.ownsRow Z1.heap.size 5 1 v8 X.length X) ⟨HBZ, ho8⟩ (fun Z2 hF => ?_)
          obtain ⟨HBZ2, ho82⟩ := hF
          have hHeld : (fun w' : World => w'.cell? ⟨w.heap.size, 0, none⟩ = some (.int .i64 k) ∧ w'.cell? ⟨w.heap.size, 1, none⟩ = some (.bool b) ∧ w'.cell? ⟨w.heap.size, 2, none⟩ = some (.int .i64 n) ∧ w'.cell? ⟨w.heap.size, 3, none⟩ = some (.string s) ∧ w'.cell? ⟨w.heap.size, 4, none⟩ = some (.slice A p.length c) ∧ w'.cell? ⟨b1, 0, none⟩ = some (.int .i64 k) ∧ w'.cell? ⟨b1, 1, none⟩ = some (.bool b) ∧ w'.cell? ⟨b1, 2, none⟩ = some (.int .i64 n) ∧ w'.cell? ⟨b1, 3, none⟩ = some (.string s) ∧ w'.cell? ⟨b1, 4, none⟩ = some (.slice A' p.length c')) Z2 := HCL.out _ HBZ2
          clear HBZ hbz HBZ1 ho8
          obtain ⟨B8, hB8⟩ : ∃ B8, B8 = Z1.heap.size := ⟨_, rfl⟩
          rw [← hB8] at ho82
          clear hB8
          refine narrow (S' := (fun w' : World => (w'.cell? ⟨w.heap.size, 0, none⟩ = some (.int .i64 k) ∧ w'.cell? ⟨w.heap.size, 1, none⟩ = some (.bool b) ∧ w'.cell? ⟨w.heap.size, 2, none⟩ = some (.int .i64 n) ∧ w'.cell? ⟨w.heap.size, 3, none⟩ = some (.string s) ∧ w'.cell? ⟨w.heap.size, 4, none⟩ = some (.slice A p.length c) ∧ w'.cell? ⟨b1, 0, none⟩ = some (.int .i64 k) ∧ w'.cell? ⟨b1, 1, none⟩ = some (.bool b) ∧ w'.cell? ⟨b1, 2, none⟩ = some (.int .i64 n) ∧ w'.cell? ⟨b1, 3, none⟩ = some (.string s) ∧ w'.cell? ⟨b1, 4, none⟩ = some (.slice A' p.length c')) ∧ w'.ownsRow B8 5 1 v8 X.length X)) (fun _ h => h.1) _ _ _ _ ?_
          have hHeld8 : (fun w' : World => (w'.cell? ⟨w.heap.size, 0, none⟩ = some (.int .i64 k) ∧ w'.cell? ⟨w.heap.size, 1, none⟩ = some (.bool b) ∧ w'.cell? ⟨w.heap.size, 2, none⟩ = some (.int .i64 n) ∧ w'.cell? ⟨w.heap.size, 3, none⟩ = some (.string s) ∧ w'.cell? ⟨w.heap.size, 4, none⟩ = some (.slice A p.length c) ∧ w'.cell? ⟨b1, 0, none⟩ = some (.int .i64 k) ∧ w'.cell? ⟨b1, 1, none⟩ = some (.bool b) ∧ w'.cell? ⟨b1, 2, none⟩ = some (.int .i64 n) ∧ w'.cell? ⟨b1, 3, none⟩ = some (.string s) ∧ w'.cell? ⟨b1, 4, none⟩ = some (.slice A' p.length c')) ∧ w'.ownsRow B8 5 1 v8 X.length X) Z2 := And.intro hHeld ho82
          clear hHeld
          refine take_in (i := 15) (v := ?v15z42) rfl (by kernel_rfl) (by kernel_rfl) (by kernel_rfl) (fun _ _ _ h => h) (by rfl) ?hy15z42 (by assumption) ?_
          case hy15z42 => intro WW hSw; have hcv := hcs _ _ _ hSw.2; (try dsimp only at hSw); go_simp; try with_reducible rfl
          try simp only [Act.put, List.setIfInBounds_toArray, List.set_cons_zero, List.set_cons_succ]
          refine one_step (i := 17) (by kernel_rfl) rfl (fun K hK => ?_)
          go_simp
          go_at_call 41
          go_loud (refine (hE2 _ HBZ2).mono ?_)
          rintro e Z ⟨v9, rfl, ho8, hbz⟩
          have HBZ : Below Wb.heap.size Wb Z := below_then HBZ2 hbz
          have ho83 := own_next hbz ho82
          clear hHeld8
          refine hK.out _ _ ⟨HCL.out _ HBZ, ho83⟩ (fun hHeld => ?_)
          clear hHeld hK K
          try simp only [Act.put, List.setIfInBounds_toArray, List.set_cons_zero, List.set_cons_succ]
          refine name_world (F := fun Y => Below Wb.heap.size Wb Y ∧ Y.ownsRow B8 5 1 v8 X.length X ∧ Y.ownsRow Z2.heap.size 5 1 v9 X.length X) ⟨HBZ, ho83, ho8⟩ (fun Z5 hF => ?_)
          obtain ⟨HBZ5, ho84, ho85⟩ := hF
          have hHeld : (fun w' : World => (w'.cell? ⟨w.heap.size, 0, none⟩ = some (.int .i64 k) ∧ w'.cell? ⟨w.heap.size, 1, none⟩ = some (.bool b) ∧ w'.cell? ⟨w.heap.size, 2, none⟩ = some (.int .i64 n) ∧ w'.cell? ⟨w.heap.size, 3, none⟩ = some (.string s) ∧ w'.cell? ⟨w.heap.size, 4, none⟩ = some (.slice A p.length c) ∧ w'.cell? ⟨b1, 0, none⟩ = some (.int .i64 k) ∧ w'.cell? ⟨b1, 1, none⟩ = some (.bool b) ∧ w'.cell? ⟨b1, 2, none⟩ = some (.int .i64 n) ∧ w'.cell? ⟨b1, 3, none⟩ = some (.string s) ∧ w'.cell? ⟨b1, 4, none⟩ = some (.slice A' p.length c')) ∧ w'.ownsRow B8 5 1 v8 X.length X) Z5 := ⟨HCL.out _ HBZ5, ho84⟩
          clear HBZ hbz ho8 ho83
          obtain ⟨B9, hB9⟩ : ∃ B9, B9 = Z2.heap.size := ⟨_, rfl⟩
          rw [← hB9] at ho85
          clear hB9 HBZ2 ho82
          refine narrow (S' := (fun w' : World => ((w'.cell? ⟨w.heap.size, 0, none⟩ = some (.int .i64 k) ∧ w'.cell? ⟨w.heap.size, 1, none⟩ = some (.bool b) ∧ w'.cell? ⟨w.heap.size, 2, none⟩ = some (.int .i64 n) ∧ w'.cell? ⟨w.heap.size, 3, none⟩ = some (.string s) ∧ w'.cell? ⟨w.heap.size, 4, none⟩ = some (.slice A p.length c) ∧ w'.cell? ⟨b1, 0, none⟩ = some (.int .i64 k) ∧ w'.cell? ⟨b1, 1, none⟩ = some (.bool b) ∧ w'.cell? ⟨b1, 2, none⟩ = some (.int .i64 n) ∧ w'.cell? ⟨b1, 3, none⟩ = some (.string s) ∧ w'.cell? ⟨b1, 4, none⟩ = some (.slice A' p.length c')) ∧ w'.ownsRow B8 5 1 v8 X.length X) ∧ w'.ownsRow B9 5 1 v9 X.length X)) (fun _ h => h.1) _ _ _ _ ?_
          have hHeld9 : (fun w' : World => ((w'.cell? ⟨w.heap.size, 0, none⟩ = some (.int .i64 k) ∧ w'.cell? ⟨w.heap.size, 1, none⟩ = some (.bool b) ∧ w'.cell? ⟨w.heap.size, 2, none⟩ = some (.int .i64 n) ∧ w'.cell? ⟨w.heap.size, 3, none⟩ = some (.string s) ∧ w'.cell? ⟨w.heap.size, 4, none⟩ = some (.slice A p.length c) ∧ w'.cell? ⟨b1, 0, none⟩ = some (.int .i64 k) ∧ w'.cell? ⟨b1, 1, none⟩ = some (.bool b) ∧ w'.cell? ⟨b1, 2, none⟩ = some (.int .i64 n) ∧ w'.cell? ⟨b1, 3, none⟩ = some (.string s) ∧ w'.cell? ⟨b1, 4, none⟩ = some (.slice A' p.length c')) ∧ w'.ownsRow B8 5 1 v8 X.length X) ∧ w'.ownsRow B9 5 1 v9 X.length X) Z5 := And.intro hHeld ho85
          clear hHeld
          refine take_in (i := 18) (v := ?v18z43) rfl (by kernel_rfl) (by kernel_rfl) (by kernel_rfl) (fun _ _ _ h => h) (by rfl) ?hy18z43 (by assumption) ?_
          case hy18z43 => intro WW hSw; have hcv := hcs _ _ _ hSw.2; (try dsimp only at hSw); go_simp; try with_reducible rfl
          try simp only [Act.put, List.setIfInBounds_toArray, List.set_cons_zero, List.set_cons_succ]
          refine take_in (i := 19) (v := .bool true) rfl (by kernel_rfl) (by kernel_rfl) (by kernel_rfl) (fun _ _ _ h => h) (by rfl) ?hy19z44 (by assumption) ?_
          case hy19z44 => intro WW hSw; have hh := hTT; (try dsimp only at hSw); go_simp; try with_reducible rfl
          try simp only [Act.put, List.setIfInBounds_toArray, List.set_cons_zero, List.set_cons_succ]
          refine take_in (i := 20) (v := ?v20z45) rfl (by kernel_rfl) (by kernel_rfl) (by kernel_rfl) (fun _ _ _ h => h) (by rfl) ?hy20z45 (by assumption) ?_
          case hy20z45 => intro WW hSw; (try dsimp only at hSw); go_simp; try with_reducible rfl
          try simp only [Act.put, List.setIfInBounds_toArray, List.set_cons_zero, List.set_cons_succ]
          refine take_in (i := 21) (v := ?v21z46) rfl (by kernel_rfl) (by kernel_rfl) (by kernel_rfl) (fun _ _ _ h => h) (by rfl) ?hy21z46 (by assumption) ?_
          case hy21z46 => intro WW hSw; (try dsimp only at hSw); go_simp; try with_reducible rfl
          try simp only [Act.put, List.setIfInBounds_toArray, List.set_cons_zero, List.set_cons_succ]
          refine wpAnyH_done (by kernel_rfl) ?_ _
          have HEND : Below w.heap.size w Z5 := below_then HBb HBZ5
          go_wp2
          go_ret
          exact ⟨rfl, by first | exact HEND | exact below_drew HEND | exact ⟨HEND.os, HEND.tape, HEND.output, HEND.size, HEND.block⟩⟩
  · go_simp
    refine hK.out _ _ (HCL.out _ (below_more HBY0 _)) (fun hHeld => ?_)
    clear hHeld hK K
    try simp only [Act.put, List.setIfInBounds_toArray, List.set_cons_zero, List.set_cons_succ]
    refine name_world (F := fun Y => Below Wb.heap.size Wb Y ∧ Y.ownsRow Wb.heap.size 5 1 v5 X.length X ∧ ReadsV Y (some ⟨Y0.heap.size, 0, none⟩) [⟨k, n, b, s, A, p, c⟩, ⟨k, n, b, s, A, p, c⟩]) ⟨below_more HBY0 _, hOY0.alloc _, reads_two Y0 ⟨k, n, b, s, A, p, c⟩ ⟨k, n, b, s, A, p, c⟩ ((HHX.out.1).below HBY0) ((HHX.out.1).below HBY0) hn hn⟩ (fun Y1 hF => ?_)
    obtain ⟨HBY1, hOY1, hQY1⟩ := hF
    have hHeld : (fun w' : World => w'.cell? ⟨w.heap.size, 0, none⟩ = some (.int .i64 k) ∧ w'.cell? ⟨w.heap.size, 1, none⟩ = some (.bool b) ∧ w'.cell? ⟨w.heap.size, 2, none⟩ = some (.int .i64 n) ∧ w'.cell? ⟨w.heap.size, 3, none⟩ = some (.string s) ∧ w'.cell? ⟨w.heap.size, 4, none⟩ = some (.slice A p.length c) ∧ w'.cell? ⟨b1, 0, none⟩ = some (.int .i64 k) ∧ w'.cell? ⟨b1, 1, none⟩ = some (.bool b) ∧ w'.cell? ⟨b1, 2, none⟩ = some (.int .i64 n) ∧ w'.cell? ⟨b1, 3, none⟩ = some (.string s) ∧ w'.cell? ⟨b1, 4, none⟩ = some (.slice A' p.length c')) Y1 := HCL.out _ HBY1
    obtain ⟨g6, hgY0⟩ : ∃ g, g = Y0.heap.size := ⟨_, rfl⟩
    simp only [← hgY0] at hQY1 ⊢
    clear hgY0
    clear HBY0 hOY0
    refine one_step (i := 2) (by kernel_rfl) rfl (fun K hK => ?_)
    go_simp
    refine hK.out _ _ (HCL.out _ (below_more HBY1 _)) (fun hHeld => ?_)
    clear hHeld hK K
    try simp only [Act.put, List.setIfInBounds_toArray, List.set_cons_zero, List.set_cons_succ]
    refine name_world (F := fun Y => Below Wb.heap.size Wb Y ∧ Y.ownsRow Wb.heap.size 5 1 v5 X.length X ∧ ReadsV Y (some ⟨Y1.heap.size, 0, none⟩) [⟨k, n, b, s, A', p, c'⟩, ⟨k, n, b, s, A, p, c⟩] ∧ ReadsV Y (some ⟨g6, 0, none⟩) [⟨k, n, b, s, A, p, c⟩, ⟨k, n, b, s, A, p, c⟩]) ⟨below_more HBY1 _, hOY1.alloc _, reads_two Y1 ⟨k, n, b, s, A', p, c'⟩ ⟨k, n, b, s, A, p, c⟩ ((HHX.out.2).below HBY1) ((HHX.out.1).below HBY1) hn hn, hQY1.below (below_alloc _)⟩ (fun Y2 hF => ?_)
    obtain ⟨HBY2, hOY2, hPY2, hQY2⟩ := hF
    have hHeld : (fun w' : World => w'.cell? ⟨w.heap.size, 0, none⟩ = some (.int .i64 k) ∧ w'.cell? ⟨w.heap.size, 1, none⟩ = some (.bool b) ∧ w'.cell? ⟨w.heap.size, 2, none⟩ = some (.int .i64 n) ∧ w'.cell? ⟨w.heap.size, 3, none⟩ = some (.string s) ∧ w'.cell? ⟨w.heap.size, 4, none⟩ = some (.slice A p.length c) ∧ w'.cell? ⟨b1, 0, none⟩ = some (.int .i64 k) ∧ w'.cell? ⟨b1, 1, none⟩ = some (.bool b) ∧ w'.cell? ⟨b1, 2, none⟩ = some (.int .i64 n) ∧ w'.cell? ⟨b1, 3, none⟩ = some (.string s) ∧ w'.cell? ⟨b1, 4, none⟩ = some (.slice A' p.length c')) Y2 := HCL.out _ HBY2
    obtain ⟨g2, hgY1⟩ : ∃ g, g = Y1.heap.size := ⟨_, rfl⟩
    simp only [← hgY1] at hPY2 ⊢
    clear hgY1
    clear HBY1 hOY1 hQY1
    refine one_step (i := 3) (by kernel_rfl) rfl (fun K hK => ?_)
    go_simp
    go_at_call 42
    go_loud (refine (hG1 _ _ _ HBY2 hPY2).mono ?_)
    rintro e Z ⟨rfl, hbz⟩
    have HBZ : Below Wb.heap.size Wb Z := below_then HBY2 hbz
    refine hK.out _ _ (HCL.out _ HBZ) (fun hHeld => ?_)
    clear hHeld hK K
    try simp only [Act.put, List.setIfInBounds_toArray, List.set_cons_zero, List.set_cons_succ]
    refine name_world (F := fun Y => Below Wb.heap.size Wb Y ∧ Y.ownsRow Wb.heap.size 5 1 v5 X.length X ∧ ReadsV Y (some ⟨g6, 0, none⟩) [⟨k, n, b, s, A, p, c⟩, ⟨k, n, b, s, A, p, c⟩]) ⟨HBZ, own_next hbz hOY2, hQY2.below hbz⟩ (fun Y3 hF => ?_)
    obtain ⟨HBY3, hOY3, hQY3⟩ := hF
    have hHeld : (fun w' : World => w'.cell? ⟨w.heap.size, 0, none⟩ = some (.int .i64 k) ∧ w'.cell? ⟨w.heap.size, 1, none⟩ = some (.bool b) ∧ w'.cell? ⟨w.heap.size, 2, none⟩ = some (.int .i64 n) ∧ w'.cell? ⟨w.heap.size, 3, none⟩ = some (.string s) ∧ w'.cell? ⟨w.heap.size, 4, none⟩ = some (.slice A p.length c) ∧ w'.cell? ⟨b1, 0, none⟩ = some (.int .i64 k) ∧ w'.cell? ⟨b1, 1, none⟩ = some (.bool b) ∧ w'.cell? ⟨b1, 2, none⟩ = some (.int .i64 n) ∧ w'.cell? ⟨b1, 3, none⟩ = some (.string s) ∧ w'.cell? ⟨b1, 4, none⟩ = some (.slice A' p.length c')) Y3 := HCL.out _ HBY3
    clear HBZ hbz
    clear HBY2 hOY2 hPY2 hQY2
    refine one_step (i := 7) (by kernel_rfl) rfl (fun K hK => ?_)
    go_simp
    go_at_call 43
    go_loud (refine (hG2 _ _ _ HBY3 hQY3).mono ?_)
    rintro e Z ⟨rfl, hbz⟩
    have HBZ : Below Wb.heap.size Wb Z := below_then HBY3 hbz
    refine hK.out _ _ (HCL.out _ HBZ) (fun hHeld => ?_)
    clear hHeld hK K
    try simp only [Act.put, List.setIfInBounds_toArray, List.set_cons_zero, List.set_cons_succ]
    refine name_world (F := fun Y => Below Wb.heap.size Wb Y ∧ Y.ownsRow Wb.heap.size 5 1 v5 X.length X) ⟨HBZ, own_next hbz hOY3⟩ (fun Y4 hF => ?_)
    obtain ⟨HBY4, hOY4⟩ := hF
    have hHeld : (fun w' : World => w'.cell? ⟨w.heap.size, 0, none⟩ = some (.int .i64 k) ∧ w'.cell? ⟨w.heap.size, 1, none⟩ = some (.bool b) ∧ w'.cell? ⟨w.heap.size, 2, none⟩ = some (.int .i64 n) ∧ w'.cell? ⟨w.heap.size, 3, none⟩ = some (.string s) ∧ w'.cell? ⟨w.heap.size, 4, none⟩ = some (.slice A p.length c) ∧ w'.cell? ⟨b1, 0, none⟩ = some (.int .i64 k) ∧ w'.cell? ⟨b1, 1, none⟩ = some (.bool b) ∧ w'.cell? ⟨b1, 2, none⟩ = some (.int .i64 n) ∧ w'.cell? ⟨b1, 3, none⟩ = some (.string s) ∧ w'.cell? ⟨b1, 4, none⟩ = some (.slice A' p.length c')) Y4 := HCL.out _ HBY4
    clear HBZ hbz
    clear HBY3 hOY3 hQY3
    refine take_in (i := 8) (v := .bool true) rfl (by kernel_rfl) (by kernel_rfl) (by kernel_rfl) (fun _ _ _ h => h) (by rfl) ?hy8z47 (by assumption) ?_
    case hy8z47 => intro WW hSw; have hh := hXX; (try dsimp only at hSw); go_simp; try with_reducible rfl
    try simp only [Act.put, List.setIfInBounds_toArray, List.set_cons_zero, List.set_cons_succ]
    refine take_in (i := 9) (v := ?v9z48) rfl (by kernel_rfl) (by kernel_rfl) (by kernel_rfl) (fun _ _ _ h => h) (by rfl) ?hy9z48 (by assumption) ?_
    case hy9z48 => intro WW hSw; (try dsimp only at hSw); go_simp; try with_reducible rfl
    try simp only [Act.put, List.setIfInBounds_toArray, List.set_cons_zero, List.set_cons_succ]
    refine wpAnyH_done (by kernel_rfl) ?_ _
    have HY : Below Wb.heap.size Wb Y4 := HBY4
    have hOY := hOY4
    clear HBY4 hOY4
    obtain ⟨L, hL⟩ : ∃ L, L = X.length := ⟨_, rfl⟩
    obtain ⟨A5, c5, hv5, hL63, -⟩ := own_slice hOY
    subst hv5
    rw [← hL] at hOY hL63 ⊢
    have hOA := Aside0.mk (And.intro hOY (And.intro hL HU.out))
    clear hOY hL
    have hLi : (L : Int) ≤ 9223372036854775807 := by omega
    go_wp2
    go_loopg [8] (L + 1) (fun gg s8 wr => ∃ (i : Nat) (ys : List Value), i ≤ L ∧ L < gg + i ∧ s8 = .int .i64 i ∧ Below Wb.heap.size Wb wr ∧ Aside0 (wr.ownsRow Wb.heap.size 5 1 (.slice A5 L c5) L ys ∧ L = ys.length ∧ AllU8 ys))
    case atStart => exact ⟨0, X, by omega, by omega, rfl, by first | exact HY | exact below_drew HY | exact ⟨HY.os, HY.tape, HY.output, HY.size, HY.block⟩, ⟨hOA.out⟩⟩
    case round =>
      obtain ⟨i, ys, hi, hg, rfl, HBr, HI⟩ := hrel
      have hi0 : (0 : Int) ≤ (i : Int) := by omega
      by_cases hlt : i < L
      · have hlti : (i : Int) < (L : Int) := by omega
        obtain ⟨g5, cap5, he5⟩ : ∃ g cap, Value.slice A5 L c5 = .slice (some ⟨g, 0, none⟩) L cap := by
          rcases HI.out.1.2 with ⟨_, h0⟩ | ⟨g, cap, cur, h, _⟩
          · omega
          · exact ⟨g, cap, h⟩
        simp only [Value.slice.injEq, true_and] at he5
        obtain ⟨rfl, rfl⟩ := he5
        obtain ⟨y, hy⟩ := allU8_at HI.out.2.2 i (by have := HI.out.2.1; omega)
        have hcell := (HI.out.1.cellAt i (by omega)).trans hy
        have hfr := HI.out.1.frozenAt i
        have hst := fun z : Int => HI.out.1.stored i (.int .u8 z)
        have hgb : Wb.heap.size ≤ g5 := (HI.out.1.lt g5 rfl).1
        have HST := Aside0.mk hst
        have HGB := Aside0.mk hgb
        clear hy hst hgb
        go_wp2
        go_roundg (gk - 1)
        case measure => omega
        case rel =>
          refine ⟨i + 1, ys.set i (.int .u8 (IntKind.u8.wrap (y + 1))), by omega, by omega, by go_num, below_set HBr HGB.out _, ⟨(HST.out _).1, by rw [List.length_set]; exact HI.out.2.1, allU8_set HI.out.2.2 _ _⟩⟩
      · obtain rfl : i = L := by omega
        have hnlt : ¬ (i : Int) < (i : Int) := by omega
        clear HI hOA
        go_upto_region 10 with (fail)
        refine wp_region_held_drew (S := (fun w' : World => w'.cell? ⟨w.heap.size, 0, none⟩ = some (.int .i64 k) ∧ w'.cell? ⟨w.heap.size, 1, none⟩ = some (.bool b) ∧ w'.cell? ⟨w.heap.size, 2, none⟩ = some (.int .i64 n) ∧ w'.cell? ⟨w.heap.size, 3, none⟩ = some (.string s) ∧ w'.cell? ⟨w.heap.size, 4, none⟩ = some (.slice A p.length c) ∧ w'.cell? ⟨b1, 0, none⟩ = some (.int .i64 k) ∧ w'.cell? ⟨b1, 1, none⟩ = some (.bool b) ∧ w'.cell? ⟨b1, 2, none⟩ = some (.int .i64 n) ∧ w'.cell? ⟨b1, 3, none⟩ = some (.string s) ∧ w'.cell? ⟨b1, 4, none⟩ = some (.slice A' p.length c'))) (by kernel_rfl) ?_ (fun hHeld => ?_)
        · exact HCL.out _ (by repeat (first | exact Below.refl _ _ | assumption | apply below_drew | apply below_drewn))
        refine take_in (i := 0) (v := ?v0z49) rfl (by kernel_rfl) (by kernel_rfl) (by kernel_rfl) (fun _ _ _ h => h) (by rfl) ?hy0z49 (by assumption) ?_
        case hy0z49 => intro WW hSw; (try dsimp only at hSw); go_simp; try with_reducible rfl
        try simp only [Act.put, List.setIfInBounds_toArray, List.set_cons_zero, List.set_cons_succ]
        refine take_in (i := 1) (v := ?v1z50) rfl (by kernel_rfl) (by kernel_rfl) (by kernel_rfl) (fun _ _ _ h => h) (by rfl) ?hy1z50 (by assumption) ?_
        case hy1z50 => intro WW hSw; (try dsimp only at hSw); go_simp; try with_reducible rfl
        try simp only [Act.put, List.setIfInBounds_toArray, List.set_cons_zero, List.set_cons_succ]
        refine take_in (i := 2) (v := ?v2z51) rfl (by kernel_rfl) (by kernel_rfl) (by kernel_rfl) (fun _ _ _ h => h) (by rfl) ?hy2z51 (by assumption) ?_
        case hy2z51 => intro WW hSw; (try dsimp only at hSw); go_simp; try with_reducible rfl
        try simp only [Act.put, List.setIfInBounds_toArray, List.set_cons_zero, List.set_cons_succ]
        refine take_in (i := 3) (v := ?v3z52) rfl (by kernel_rfl) (by kernel_rfl) (by kernel_rfl) (fun _ _ _ h => h) (by rfl) ?hy3z52 (by assumption) ?_
        case hy3z52 => intro WW hSw; (try dsimp only at hSw); go_simp; try with_reducible rfl
        try simp only [Act.put, List.setIfInBounds_toArray, List.set_cons_zero, List.set_cons_succ]
        refine take_in (i := 4) (v := ?v4z53) rfl (by kernel_rfl) (by kernel_rfl) (by kernel_rfl) (fun _ _ _ h => h) (by rfl) ?hy4z53 (by assumption) ?_
        case hy4z53 => intro WW hSw; (try dsimp only at hSw); go_simp; try with_reducible rfl
        try simp only [Act.put, List.setIfInBounds_toArray, List.set_cons_zero, List.set_cons_succ]
        refine take_in (i := 5) (v := ?v5z54) rfl (by kernel_rfl) (by kernel_rfl) (by kernel_rfl) (fun _ _ _ h => h) (by rfl) ?hy5z54 (by assumption) ?_
        case hy5z54 => intro WW hSw; (try dsimp only at hSw); go_simp; try with_reducible rfl
        try simp only [Act.put, List.setIfInBounds_toArray, List.set_cons_zero, List.set_cons_succ]
        refine take_in (i := 6) (v := ?v6z55) rfl (by kernel_rfl) (by kernel_rfl) (by kernel_rfl) (fun _ _ _ h => h) (by rfl) ?hy6z55 (by assumption) ?_
        case hy6z55 => intro WW hSw; (try dsimp only at hSw); go_simp; try with_reducible rfl
        try simp only [Act.put, List.setIfInBounds_toArray, List.set_cons_zero, List.set_cons_succ]
        refine take_in (i := 7) (v := ?v7z56) rfl (by kernel_rfl) (by kernel_rfl) (by kernel_rfl) (fun _ _ _ h => h) (by rfl) ?hy7z56 (by assumption) ?_
        case hy7z56 => intro WW hSw; (try dsimp only at hSw); go_simp; try with_reducible rfl
        try simp only [Act.put, List.setIfInBounds_toArray, List.set_cons_zero, List.set_cons_succ]
        refine take_in (i := 8) (v := ?v8z57) rfl (by kernel_rfl) (by kernel_rfl) (by kernel_rfl) (fun _ _ _ h => h) (by rfl) ?hy8z57 (by assumption) ?_
        case hy8z57 => intro WW hSw; (try dsimp only at hSw); go_simp; try with_reducible rfl
        try simp only [Act.put, List.setIfInBounds_toArray, List.set_cons_zero, List.set_cons_succ]
        refine take_in (i := 9) (v := ?v9z58) rfl (by kernel_rfl) (by kernel_rfl) (by kernel_rfl) (fun _ _ _ h => h) (by rfl) ?hy9z58 (by assumption) ?_
        case hy9z58 => intro WW hSw; (try dsimp only at hSw); go_simp; try with_reducible rfl
        try simp only [Act.put, List.setIfInBounds_toArray, List.set_cons_zero, List.set_cons_succ]
        refine name_world (F := fun Y => Below Wb.heap.size Wb Y) (by repeat (first | exact Below.refl _ _ | assumption | apply below_drew | apply below_drewn)) (fun Z0 hF => ?_)
        clear hHeld HBr HY
        have HBZ0 := hF
        have hHeld : (fun w' : World => w'.cell? ⟨w.heap.size, 0, none⟩ = some (.int .i64 k) ∧ w'.cell? ⟨w.heap.size, 1, none⟩ = some (.bool b) ∧ w'.cell? ⟨w.heap.size, 2, none⟩ = some (.int .i64 n) ∧ w'.cell? ⟨w.heap.size, 3, none⟩ = some (.string s) ∧ w'.cell? ⟨w.heap.size, 4, none⟩ = some (.slice A p.length c) ∧ w'.cell? ⟨b1, 0, none⟩ = some (.int .i64 k) ∧ w'.cell? ⟨b1, 1, none⟩ = some (.bool b) ∧ w'.cell? ⟨b1, 2, none⟩ = some (.int .i64 n) ∧ w'.cell? ⟨b1, 3, none⟩ = some (.string s) ∧ w'.cell? ⟨b1, 4, none⟩ = some (.slice A' p.length c')) Z0 := HCL.out _ HBZ0
        refine one_step (i := 10) (by kernel_rfl) rfl (fun K hK => ?_)
        go_simp
        go_at_call 24
        go_loud (refine (hSa _ HBZ0).mono ?_)
        rintro e Z ⟨rfl, hbz⟩
        have HBZ : Below Wb.heap.size Wb Z := below_then HBZ0 hbz
        refine hK.out _ _ (HCL.out _ HBZ) (fun hHeld => ?_)
        clear hHeld hK K
        try simp only [Act.put, List.setIfInBounds_toArray, List.set_cons_zero, List.set_cons_succ]
        refine name_world (F := fun Y => Below Wb.heap.size Wb Y) HBZ (fun Z1 hF => ?_)
        have HBZ1 := hF
        have hHeld : (fun w' : World => w'.cell? ⟨w.heap.size, 0, none⟩ = some (.int .i64 k) ∧ w'.cell? ⟨w.heap.size, 1, none⟩ = some (.bool b) ∧ w'.cell? ⟨w.heap.size, 2, none⟩ = some (.int .i64 n) ∧ w'.cell? ⟨w.heap.size, 3, none⟩ = some (.string s) ∧ w'.cell? ⟨w.heap.size, 4, none⟩ = some (.slice A p.length c) ∧ w'.cell? ⟨b1, 0, none⟩ = some (.int .i64 k) ∧ w'.cell? ⟨b1, 1, none⟩ = some (.bool b) ∧ w'.cell? ⟨b1, 2, none⟩ = some (.int .i64 n) ∧ w'.cell? ⟨b1, 3, none⟩ = some (.string s) ∧ w'.cell? ⟨b1, 4, none⟩ = some (.slice A' p.length c')) Z1 := HCL.out _ HBZ1
        clear HBZ hbz HBZ0
        refine take_in (i := 11) (v := ?v11z59) rfl (by kernel_rfl) (by kernel_rfl) (by kernel_rfl) (fun _ _ _ h => h) (by rfl) ?hy11z59 (by assumption) ?_
        case hy11z59 => intro WW hSw; (try dsimp only at hSw); go_simp; try with_reducible rfl
        try simp only [Act.put, List.setIfInBounds_toArray, List.set_cons_zero, List.set_cons_succ]
        refine take_in (i := 12) (v := ?v12z60) rfl (by kernel_rfl) (by kernel_rfl) (by kernel_rfl) (fun _ _ _ h => h) (by rfl) ?hy12z60 (by assumption) ?_
        case hy12z60 => intro WW hSw; (try dsimp only at hSw); go_simp; try with_reducible rfl
        try simp only [Act.put, List.setIfInBounds_toArray, List.set_cons_zero, List.set_cons_succ]
        refine take_in (i := 13) (v := ?v13z61) rfl (by kernel_rfl) (by kernel_rfl) (by kernel_rfl) (fun _ _ _ h => h) (by rfl) ?hy13z61 (by assumption) ?_
        case hy13z61 => intro WW hSw; (try dsimp only at hSw); go_simp; try with_reducible rfl
        try simp only [Act.put, List.setIfInBounds_toArray, List.set_cons_zero, List.set_cons_succ]
        refine take_in (i := 16) (v := ?v16z62) rfl (by kernel_rfl) (by kernel_rfl) (by kernel_rfl) (fun _ _ _ h => h) (by rfl) ?hy16z62 (by assumption) ?_
        case hy16z62 => intro WW hSw; (try dsimp only at hSw); go_simp; try with_reducible rfl
        try simp only [Act.put, List.setIfInBounds_toArray, List.set_cons_zero, List.set_cons_succ]
        refine one_step (i := 14) (by kernel_rfl) rfl (fun K hK => ?_)
        go_simp
        go_at_call 23
        go_loud (refine (hE1 _ HBZ1).mono ?_)
        rintro e Z ⟨v8, rfl, ho8, hbz⟩
        have HBZ : Below Wb.heap.size Wb Z := below_then HBZ1 hbz
        refine hK.out _ _ (HCL.out _ HBZ) (fun hHeld => ?_)
        clear hHeld hK K
        try simp only [Act.put, List.setIfInBounds_toArray, List.set_cons_zero, List.set_cons_succ]
        refine name_world (F := fun Y => Below Wb.heap.size Wb Y ∧ Y.ownsRow Z1.heap.size 5 1 v8 X.length X) ⟨HBZ, ho8⟩ (fun Z2 hF => ?_)
        obtain ⟨HBZ2, ho82⟩ := hF
        have hHeld : (fun w' : World => w'.cell? ⟨w.heap.size, 0, none⟩ = some (.int .i64 k) ∧ w'.cell? ⟨w.heap.size, 1, none⟩ = some (.bool b) ∧ w'.cell? ⟨w.heap.size, 2, none⟩ = some (.int .i64 n) ∧ w'.cell? ⟨w.heap.size, 3, none⟩ = some (.string s) ∧ w'.cell? ⟨w.heap.size, 4, none⟩ = some (.slice A p.length c) ∧ w'.cell? ⟨b1, 0, none⟩ = some (.int .i64 k) ∧ w'.cell? ⟨b1, 1, none⟩ = some (.bool b) ∧ w'.cell? ⟨b1, 2, none⟩ = some (.int .i64 n) ∧ w'.cell? ⟨b1, 3, none⟩ = some (.string s) ∧ w'.cell? ⟨b1, 4, none⟩ = some (.slice A' p.length c')) Z2 := HCL.out _ HBZ2
        clear HBZ hbz HBZ1 ho8
        obtain ⟨B8, hB8⟩ : ∃ B8, B8 = Z1.heap.size := ⟨_, rfl⟩
        rw [← hB8] at ho82
        clear hB8
        refine narrow (S' := (fun w' : World => (w'.cell? ⟨w.heap.size, 0, none⟩ = some (.int .i64 k) ∧ w'.cell? ⟨w.heap.size, 1, none⟩ = some (.bool b) ∧ w'.cell? ⟨w.heap.size, 2, none⟩ = some (.int .i64 n) ∧ w'.cell? ⟨w.heap.size, 3, none⟩ = some (.string s) ∧ w'.cell? ⟨w.heap.size, 4, none⟩ = some (.slice A p.length c) ∧ w'.cell? ⟨b1, 0, none⟩ = some (.int .i64 k) ∧ w'.cell? ⟨b1, 1, none⟩ = some (.bool b) ∧ w'.cell? ⟨b1, 2, none⟩ = some (.int .i64 n) ∧ w'.cell? ⟨b1, 3, none⟩ = some (.string s) ∧ w'.cell? ⟨b1, 4, none⟩ = some (.slice A' p.length c')) ∧ w'.ownsRow B8 5 1 v8 X.length X)) (fun _ h => h.1) _ _ _ _ ?_
        have hHeld8 : (fun w' : World => (w'.cell? ⟨w.heap.size, 0, none⟩ = some (.int .i64 k) ∧ w'.cell? ⟨w.heap.size, 1, none⟩ = some (.bool b) ∧ w'.cell? ⟨w.heap.size, 2, none⟩ = some (.int .i64 n) ∧ w'.cell? ⟨w.heap.size, 3, none⟩ = some (.string s) ∧ w'.cell? ⟨w.heap.size, 4, none⟩ = some (.slice A p.length c) ∧ w'.cell? ⟨b1, 0, none⟩ = some (.int .i64 k) ∧ w'.cell? ⟨b1, 1, none⟩ = some (.bool b) ∧ w'.cell? ⟨b1, 2, none⟩ = some (.int .i64 n) ∧ w'.cell? ⟨b1, 3, none⟩ = some (.string s) ∧ w'.cell? ⟨b1, 4, none⟩ = some (.slice A' p.length c')) ∧ w'.ownsRow B8 5 1 v8 X.length X) Z2 := And.intro hHeld ho82
        clear hHeld
        refine take_in (i := 15) (v := ?v15z63) rfl (by kernel_rfl) (by kernel_rfl) (by kernel_rfl) (fun _ _ _ h => h) (by rfl) ?hy15z63 (by assumption) ?_
        case hy15z63 => intro WW hSw; have hcv := hcs _ _ _ hSw.2; (try dsimp only at hSw); go_simp; try with_reducible rfl
        try simp only [Act.put, List.setIfInBounds_toArray, List.set_cons_zero, List.set_cons_succ]
        refine one_step (i := 17) (by kernel_rfl) rfl (fun K hK => ?_)
        go_simp
        go_at_call 41
        go_loud (refine (hE2 _ HBZ2).mono ?_)
        rintro e Z ⟨v9, rfl, ho8, hbz⟩
        have HBZ : Below Wb.heap.size Wb Z := below_then HBZ2 hbz
        have ho83 := own_next hbz ho82
        clear hHeld8
        refine hK.out _ _ ⟨HCL.out _ HBZ, ho83⟩ (fun hHeld => ?_)
        clear hHeld hK K
        try simp only [Act.put, List.setIfInBounds_toArray, List.set_cons_zero, List.set_cons_succ]
        refine name_world (F := fun Y => Below Wb.heap.size Wb Y ∧ Y.ownsRow B8 5 1 v8 X.length X ∧ Y.ownsRow Z2.heap.size 5 1 v9 X.length X) ⟨HBZ, ho83, ho8⟩ (fun Z5 hF => ?_)
        obtain ⟨HBZ5, ho84, ho85⟩ := hF
        have hHeld : (fun w' : World => (w'.cell? ⟨w.heap.size, 0, none⟩ = some (.int .i64 k) ∧ w'.cell? ⟨w.heap.size, 1, none⟩ = some (.bool b) ∧ w'.cell? ⟨w.heap.size, 2, none⟩ = some (.int .i64 n) ∧ w'.cell? ⟨w.heap.size, 3, none⟩ = some (.string s) ∧ w'.cell? ⟨w.heap.size, 4, none⟩ = some (.slice A p.length c) ∧ w'.cell? ⟨b1, 0, none⟩ = some (.int .i64 k) ∧ w'.cell? ⟨b1, 1, none⟩ = some (.bool b) ∧ w'.cell? ⟨b1, 2, none⟩ = some (.int .i64 n) ∧ w'.cell? ⟨b1, 3, none⟩ = some (.string s) ∧ w'.cell? ⟨b1, 4, none⟩ = some (.slice A' p.length c')) ∧ w'.ownsRow B8 5 1 v8 X.length X) Z5 := ⟨HCL.out _ HBZ5, ho84⟩
        clear HBZ hbz ho8 ho83
        obtain ⟨B9, hB9⟩ : ∃ B9, B9 = Z2.heap.size := ⟨_, rfl⟩
        rw [← hB9] at ho85
        clear hB9 HBZ2 ho82
        refine narrow (S' := (fun w' : World => ((w'.cell? ⟨w.heap.size, 0, none⟩ = some (.int .i64 k) ∧ w'.cell? ⟨w.heap.size, 1, none⟩ = some (.bool b) ∧ w'.cell? ⟨w.heap.size, 2, none⟩ = some (.int .i64 n) ∧ w'.cell? ⟨w.heap.size, 3, none⟩ = some (.string s) ∧ w'.cell? ⟨w.heap.size, 4, none⟩ = some (.slice A p.length c) ∧ w'.cell? ⟨b1, 0, none⟩ = some (.int .i64 k) ∧ w'.cell? ⟨b1, 1, none⟩ = some (.bool b) ∧ w'.cell? ⟨b1, 2, none⟩ = some (.int .i64 n) ∧ w'.cell? ⟨b1, 3, none⟩ = some (.string s) ∧ w'.cell? ⟨b1, 4, none⟩ = some (.slice A' p.length c')) ∧ w'.ownsRow B8 5 1 v8 X.length X) ∧ w'.ownsRow B9 5 1 v9 X.length X)) (fun _ h => h.1) _ _ _ _ ?_
        have hHeld9 : (fun w' : World => ((w'.cell? ⟨w.heap.size, 0, none⟩ = some (.int .i64 k) ∧ w'.cell? ⟨w.heap.size, 1, none⟩ = some (.bool b) ∧ w'.cell? ⟨w.heap.size, 2, none⟩ = some (.int .i64 n) ∧ w'.cell? ⟨w.heap.size, 3, none⟩ = some (.string s) ∧ w'.cell? ⟨w.heap.size, 4, none⟩ = some (.slice A p.length c) ∧ w'.cell? ⟨b1, 0, none⟩ = some (.int .i64 k) ∧ w'.cell? ⟨b1, 1, none⟩ = some (.bool b) ∧ w'.cell? ⟨b1, 2, none⟩ = some (.int .i64 n) ∧ w'.cell? ⟨b1, 3, none⟩ = some (.string s) ∧ w'.cell? ⟨b1, 4, none⟩ = some (.slice A' p.length c')) ∧ w'.ownsRow B8 5 1 v8 X.length X) ∧ w'.ownsRow B9 5 1 v9 X.length X) Z5 := And.intro hHeld ho85
        clear hHeld
        refine take_in (i := 18) (v := ?v18z64) rfl (by kernel_rfl) (by kernel_rfl) (by kernel_rfl) (fun _ _ _ h => h) (by rfl) ?hy18z64 (by assumption) ?_
        case hy18z64 => intro WW hSw; have hcv := hcs _ _ _ hSw.2; (try dsimp only at hSw); go_simp; try with_reducible rfl
        try simp only [Act.put, List.setIfInBounds_toArray, List.set_cons_zero, List.set_cons_succ]
        refine take_in (i := 19) (v := .bool true) rfl (by kernel_rfl) (by kernel_rfl) (by kernel_rfl) (fun _ _ _ h => h) (by rfl) ?hy19z65 (by assumption) ?_
        case hy19z65 => intro WW hSw; have hh := hTT; (try dsimp only at hSw); go_simp; try with_reducible rfl
        try simp only [Act.put, List.setIfInBounds_toArray, List.set_cons_zero, List.set_cons_succ]
        refine take_in (i := 20) (v := ?v20z66) rfl (by kernel_rfl) (by kernel_rfl) (by kernel_rfl) (fun _ _ _ h => h) (by rfl) ?hy20z66 (by assumption) ?_
        case hy20z66 => intro WW hSw; (try dsimp only at hSw); go_simp; try with_reducible rfl
        try simp only [Act.put, List.setIfInBounds_toArray, List.set_cons_zero, List.set_cons_succ]
        refine take_in (i := 21) (v := ?v21z67) rfl (by kernel_rfl) (by kernel_rfl) (by kernel_rfl) (fun _ _ _ h => h) (by rfl) ?hy21z67 (by assumption) ?_
        case hy21z67 => intro WW hSw; (try dsimp only at hSw); go_simp; try with_reducible rfl
        try simp only [Act.put, List.setIfInBounds_toArray, List.set_cons_zero, List.set_cons_succ]
        refine wpAnyH_done (by kernel_rfl) ?_ _
        have HEND : Below w.heap.size w Z5 := below_then HBb HBZ5
        go_wp2
        go_ret
        exact ⟨rfl, by first | exact HEND | exact below_drew HEND | exact ⟨HEND.os, HEND.tape, HEND.output, HEND.size, HEND.block⟩⟩
end Go.Proofs.YthafbdkjpgeopaaDoor
