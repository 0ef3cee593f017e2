/- Concat of two columns of one kind. -/
import Derived.Test.YtbdbcbpcekpcoaaDoorCvSR
import Derived.Test.YtbdbcbpcekpcoaaDoorCvAppV
set_option linter.unusedVariables false
set_option linter.unusedSimpArgs false
namespace Go.Proofs.YtbdbcbpcekpcoaaDoor
open Go.RowKit Go.Maps

theorem fits_eq {k : Int} {u v : V5} (h : Eq5 u v) (hf : fitsV k v = true) : fitsV k u = true := by
  obtain ⟨h1, h2, h3, h4, h5⟩ := h
  unfold fitsV at hf ⊢
  rw [h1, h2, h3, h4, h5]
  exact hf
theorem fits_row {k : Int} {us vs : List V5} (h : EqR us vs) (hf : ∀ v ∈ vs, fitsV k v = true) : ∀ u ∈ us, fitsV k u = true := by
  intro u hu
  obtain ⟨i, hi, e⟩ := List.getElem_of_mem hu
  have h1 := h.2 i (by have := h.1; omega)
  have hv : vs.getD i V5.zero ∈ vs := by rw [List.getD_eq_getElem?_getD, List.getElem?_eq_getElem (by have := h.1; omega)]; exact List.getElem_mem _
  have e2 : us.getD i V5.zero = u := by rw [List.getD_eq_getElem?_getD, List.getElem?_eq_getElem hi]; exact e
  rw [e2] at h1
  exact fits_eq h1 (hf _ hv)
theorem eqR_app {us vs us2 ms : List V5} (h : EqR us vs) (h2 : EqR us2 ms) : EqR (us ++ us2) (vs ++ ms) := by
  refine ⟨by rw [List.length_append, List.length_append, h.1, h2.1], fun i hi => ?_⟩
  rw [List.length_append] at hi
  rw [List.getD_eq_getElem?_getD, List.getD_eq_getElem?_getD]
  by_cases hlt : i < vs.length
  · rw [List.getElem?_append_left (by have := h.1; omega), List.getElem?_append_left hlt, ← List.getD_eq_getElem?_getD, ← List.getD_eq_getElem?_getD]
    exact h.2 i hlt
  · rw [List.getElem?_append_right (by have := h.1; omega), List.getElem?_append_right (by omega), h.1, ← List.getD_eq_getElem?_getD, ← List.getD_eq_getElem?_getD]
    exact h2.2 _ (by omega)
set_option maxRecDepth 100000 in
set_option maxHeartbeats 6400000 in
theorem concat_any (k : Int) (hk : 1 ≤ k ∧ k ≤ 6) (F : Nat → Prop) (b : Nat) (S : VS) (vs : List V5) (F2 : Nat → Prop) (b2 : Nat) (S2 : VS) (ms : List V5) (w : World) (hv : VecIs w F b S) (hR : Rep k S vs) (hwf : WF S) (hf : ∀ v ∈ vs, fitsV k v = true) (hnum : ∀ v ∈ vs, -9223372036854775808 ≤ v.n ∧ v.n ≤ 9223372036854775807)
    (hv2 : VecIs w F2 b2 S2) (hR2 : Rep k S2 ms) (hwf2 : WF S2) (hf2 : ∀ v ∈ ms, fitsV k v = true) (hnum2 : ∀ v ∈ ms, -9223372036854775808 ≤ v.n ∧ v.n ≤ 9223372036854775807) (hN : vs.length + ms.length ≤ 100000000000) :
    Calls Tryd.prog 16 #[.pointer (some ⟨b, 0, none⟩), .pointer (some ⟨b2, 0, none⟩)] w fun e w' => ∃ bx us, e = .returned (.tuple #[.pointer (some ⟨bx, 0, none⟩), .int .i64 0]) ∧ EqR us (vs ++ ms) ∧ VecIs w' (fun _ => True) bx (ofL k us) ∧ (∀ u ∈ us, -9223372036854775808 ≤ u.n ∧ u.n ≤ 9223372036854775807) ∧ Below w.heap.size w w' := by
  have HV1 : Aside0 (∀ W, Below w.heap.size w W → Calls Tryd.prog 28 #[.pointer (some ⟨b, 0, none⟩)] W fun e w' => ∃ rv us, e = .returned rv ∧ OwnV w' W.heap.size rv us ∧ EqR us vs ∧ (∀ u ∈ us, ∀ a, u.A = some a → W.heap.size ≤ a.block) ∧ Below W.heap.size W w') := ⟨fun W h => values_any k hk F b S vs W (vecIs_below hv h) hR hwf hf hnum (by omega)⟩
  have HV2 : Aside0 (∀ W, Below w.heap.size w W → Calls Tryd.prog 28 #[.pointer (some ⟨b2, 0, none⟩)] W fun e w' => ∃ rv us, e = .returned rv ∧ OwnV w' W.heap.size rv us ∧ EqR us ms ∧ (∀ u ∈ us, ∀ a, u.A = some a → W.heap.size ≤ a.block) ∧ Below W.heap.size W w') := ⟨fun W h => values_any k hk F2 b2 S2 ms W (vecIs_below hv2 h) hR2 hwf2 hf2 hnum2 (by omega)⟩
  have HOF : Aside0 (∀ (W : World) (B : Nat) (v : Value) (us us2 : List V5), OwnV W B v (us ++ us2) → EqR us vs → EqR us2 ms → ∃ A c, v = .slice A (us ++ us2).length c ∧ Aside0 (Calls Tryd.prog 9 #[.int .i64 k, .slice A (us ++ us2).length c] W fun e w' => e = .returned (.tuple #[.pointer (some ⟨W.heap.size + 1, 0, none⟩), .int .i64 0]) ∧ VecIs w' (fun j => W.heap.size ≤ j) (W.heap.size + 1) (ofL k (us ++ us2)) ∧ Below W.heap.size W w')) := ⟨fun W B v us us2 hO hq hq2 => by
    obtain ⟨A, c, e, hrd⟩ := hO.reads
    have hq3 := eqR_app hq hq2
    refine ⟨A, c, e, ⟨of_ok k A (us ++ us2) c W hk hrd (by rw [hq3.1, List.length_append]; exact Nat.le_trans hN (room_ge k)) (fits_row hq3 (fun v hv => by
      rcases List.mem_append.1 hv with h | h
      · exact hf v h
      · exact hf2 v h)) (fun v _ => appOk_any k hk v)⟩⟩⟩
  have HN : Aside0 (vs.length + ms.length ≤ 200000000000) := ⟨by omega⟩
  have hks := hR.kind
  have hks2 := hR2.kind
  obtain ⟨nv, bv, iv, dv, hvv, m, hV⟩ := hv
  obtain ⟨nv2, bv2, iv2, dv2, hvv2, m2, hV2⟩ := hv2
  have hb1 := hV.box.lt
  have hb2 := hV2.box.lt
  have hc1 := hV.box.cells 0
  have hc2 := hV2.box.cells 0
  have HK1 : Aside0 (∀ W, Below w.heap.size w W → W.cell? ⟨b, 0, none⟩ = some (.int .i64 k)) := ⟨fun W h => by rw [← hks]; exact (h.cell hb1).trans hc1⟩
  have HK2 : Aside0 (∀ W, Below w.heap.size w W → W.cell? ⟨b2, 0, none⟩ = some (.int .i64 k)) := ⟨fun W h => by rw [← hks2]; exact (h.cell hb2).trans hc2⟩
  have hkk : (k != k) = false := by simp
  clear hR hwf hf hnum hR2 hwf2 hf2 hnum2 hN hks hks2 hV hV2 hc1 hc2
  go_enter Tryd.func16, Tryd.ntmps16
  go_upto_region 3 with (fail)
  refine wp_region_held_drew (S := (fun WW => Below w.heap.size w WW)) (by kernel_rfl) ?_ (fun hHeld => ?_)
  · first | exact Below.refl _ _ | exact below_drew (Below.refl _ _)
  refine take_in (i := 0) (v := ?v0a) rfl (by kernel_rfl) (by kernel_rfl) (by kernel_rfl) (fun _ _ _ h => h) (by rfl) ?hy0a (by assumption) ?_
  case hy0a => intro WW hSw; (try dsimp only at hSw); go_simp; try with_reducible rfl
  try simp only [Act.put, List.setIfInBounds_toArray, List.set_cons_zero, List.set_cons_succ]
  refine take_in (i := 1) (v := ?v1a) rfl (by kernel_rfl) (by kernel_rfl) (by kernel_rfl) (fun _ _ _ h => h) (by rfl) ?hy1a (by assumption) ?_
  case hy1a => intro WW hSw; (try dsimp only at hSw); go_simp; try with_reducible rfl
  try simp only [Act.put, List.setIfInBounds_toArray, List.set_cons_zero, List.set_cons_succ]
  refine take_in (i := 2) (v := ?v2a) rfl (by kernel_rfl) (by kernel_rfl) (by kernel_rfl) (fun _ _ _ h => h) (by rfl) ?hy2a (by assumption) ?_
  case hy2a => intro WW hSw; (try dsimp only at hSw); go_simp; try with_reducible rfl
  try simp only [Act.put, List.setIfInBounds_toArray, List.set_cons_zero, List.set_cons_succ]
  refine take_in (i := 3) (v := .int .i64 k) rfl (by kernel_rfl) (by kernel_rfl) (by kernel_rfl) (fun _ _ _ h => h) (by rfl) ?hy3a (by assumption) ?_
  case hy3a => intro WW hSw; have h1 := HK1.out WW hSw; have h2 := HK2.out WW hSw; go_simp; try with_reducible rfl
  try simp only [Act.put, List.setIfInBounds_toArray, List.set_cons_zero, List.set_cons_succ]
  refine take_in (i := 4) (v := ?v4a) rfl (by kernel_rfl) (by kernel_rfl) (by kernel_rfl) (fun _ _ _ h => h) (by rfl) ?hy4a (by assumption) ?_
  case hy4a => intro WW hSw; (try dsimp only at hSw); go_simp; try with_reducible rfl
  try simp only [Act.put, List.setIfInBounds_toArray, List.set_cons_zero, List.set_cons_succ]
  refine take_in (i := 5) (v := ?v5a) rfl (by kernel_rfl) (by kernel_rfl) (by kernel_rfl) (fun _ _ _ h => h) (by rfl) ?hy5a (by assumption) ?_
  case hy5a => intro WW hSw; (try dsimp only at hSw); go_simp; try with_reducible rfl
  try simp only [Act.put, List.setIfInBounds_toArray, List.set_cons_zero, List.set_cons_succ]
  refine take_in (i := 6) (v := ?v6a) rfl (by kernel_rfl) (by kernel_rfl) (by kernel_rfl) (fun _ _ _ h => h) (by rfl) ?hy6a (by assumption) ?_
  case hy6a => intro WW hSw; (try dsimp only at hSw); go_simp; try with_reducible rfl
  try simp only [Act.put, List.setIfInBounds_toArray, List.set_cons_zero, List.set_cons_succ]
  refine take_in (i := 7) (v := .int .i64 k) rfl (by kernel_rfl) (by kernel_rfl) (by kernel_rfl) (fun _ _ _ h => h) (by rfl) ?hy7a (by assumption) ?_
  case hy7a => intro WW hSw; have h1 := HK1.out WW hSw; have h2 := HK2.out WW hSw; go_simp; try with_reducible rfl
  try simp only [Act.put, List.setIfInBounds_toArray, List.set_cons_zero, List.set_cons_succ]
  refine take_in (i := 8) (v := .bool false) rfl (by kernel_rfl) (by kernel_rfl) (by kernel_rfl) (fun _ _ _ h => h) (by rfl) ?hy8a (by assumption) ?_
  case hy8a => intro WW hSw; have hh := hkk; go_simp; try with_reducible rfl
  try simp only [Act.put, List.setIfInBounds_toArray, List.set_cons_zero, List.set_cons_succ]
  refine take_in (i := 9) (v := ?v9a) rfl (by kernel_rfl) (by kernel_rfl) (by kernel_rfl) (fun _ _ _ h => h) (by rfl) ?hy9a (by assumption) ?_
  case hy9a => intro WW hSw; (try dsimp only at hSw); go_simp; try with_reducible rfl
  try simp only [Act.put, List.setIfInBounds_toArray, List.set_cons_zero, List.set_cons_succ]
  refine wpAnyH_done (by kernel_rfl) ?_ _
  go_upto_region 5 with (fail)
  have HB0 : Below w.heap.size w w.drew := below_drew (Below.refl _ _)
  refine wp_region_held_drew (S := (fun WW => Below w.heap.size w WW)) (by kernel_rfl) ?_ (fun hHeld => ?_)
  · (first | exact HB6 | exact HB5 | exact HB4 | exact HB3 | exact HB0 | exact below_drew HB0)
  refine take_in (i := 0) (v := ?v0b) rfl (by kernel_rfl) (by kernel_rfl) (by kernel_rfl) (fun _ _ _ h => h) (by rfl) ?hy0b (by assumption) ?_
  case hy0b => intro WW hSw; (try dsimp only at hSw); go_simp; try with_reducible rfl
  try simp only [Act.put, List.setIfInBounds_toArray, List.set_cons_zero, List.set_cons_succ]
  refine take_in (i := 1) (v := ?v1b) rfl (by kernel_rfl) (by kernel_rfl) (by kernel_rfl) (fun _ _ _ h => h) (by rfl) ?hy1b (by assumption) ?_
  case hy1b => intro WW hSw; (try dsimp only at hSw); go_simp; try with_reducible rfl
  try simp only [Act.put, List.setIfInBounds_toArray, List.set_cons_zero, List.set_cons_succ]
  refine take_in (i := 2) (v := ?v2b) rfl (by kernel_rfl) (by kernel_rfl) (by kernel_rfl) (fun _ _ _ h => h) (by rfl) ?hy2b (by assumption) ?_
  case hy2b => intro WW hSw; (try dsimp only at hSw); go_simp; try with_reducible rfl
  try simp only [Act.put, List.setIfInBounds_toArray, List.set_cons_zero, List.set_cons_succ]
  refine take_in (i := 3) (v := .int .i64 k) rfl (by kernel_rfl) (by kernel_rfl) (by kernel_rfl) (fun _ _ _ h => h) (by rfl) ?hy3b (by assumption) ?_
  case hy3b => intro WW hSw; have h1 := HK1.out WW hSw; have h2 := HK2.out WW hSw; go_simp; try with_reducible rfl
  try simp only [Act.put, List.setIfInBounds_toArray, List.set_cons_zero, List.set_cons_succ]
  refine take_in (i := 4) (v := ?v4b) rfl (by kernel_rfl) (by kernel_rfl) (by kernel_rfl) (fun _ _ _ h => h) (by rfl) ?hy4b (by assumption) ?_
  case hy4b => intro WW hSw; (try dsimp only at hSw); go_simp; try with_reducible rfl
  try simp only [Act.put, List.setIfInBounds_toArray, List.set_cons_zero, List.set_cons_succ]
  refine take_in (i := 6) (v := ?v6b) rfl (by kernel_rfl) (by kernel_rfl) (by kernel_rfl) (fun _ _ _ h => h) (by rfl) ?hy6b (by assumption) ?_
  case hy6b => intro WW hSw; (try dsimp only at hSw); go_simp; try with_reducible rfl
  try simp only [Act.put, List.setIfInBounds_toArray, List.set_cons_zero, List.set_cons_succ]
  refine one_step (i := 5) (by kernel_rfl) rfl (fun K hK => ?_)
  go_simp
  go_at_call 28
  go_loud (refine (HV1.out _ (by first | exact HB0 | exact below_drew HB0)).mono ?_)
  rintro e W3 ⟨rv, us, rfl, hO1, hq1, hlw1, hb3⟩
  have HB3 : Below w.heap.size w W3 := by first | exact below_then HB0 hb3 | exact below_then (below_drew HB0) hb3
  obtain ⟨A1, c1, rfl, hrd1⟩ := hO1.reads
  have HO1 := Aside0.mk hO1
  have HQ1 := Aside0.mk hq1
  clear hO1 hq1 hlw1 hb3 hrd1
  refine hK.out _ _ ?_ (fun hHeld => ?_)
  · (first | exact HB6 | exact HB5 | exact HB4 | exact HB3 | exact HB0 | exact below_drew HB0)
  clear hK K
  try simp only [Act.put, List.setIfInBounds_toArray, List.set_cons_zero, List.set_cons_succ]
  refine one_step (i := 7) (by kernel_rfl) rfl (fun K hK => ?_)
  go_simp
  go_at_call 28
  go_loud (refine (HV2.out _ HB3).mono ?_)
  rintro e W4 ⟨rv2, us2, rfl, hO2, hq2, hlw2, hb4⟩
  have HB4 : Below w.heap.size w W4 := below_then HB3 hb4
  obtain ⟨A2, c2, rfl, hrd2⟩ := hO2.reads
  have HO14 := Aside0.mk (HO1.out.below hb4)
  have HRD2 := Aside0.mk hrd2
  have HQ2 := Aside0.mk hq2
  have HAP : Aside0 (∀ u ∈ us2, ∀ a, u.A = some a → 0 < u.p.length → (Value.slice A1 us.length c1).ownBlock ≠ some a.block) := ⟨fun u hu a e _ e2 => by have h1 := hlw2 u hu a e; have h2 := (HO1.out.row.lt a.block e2).2; omega⟩
  have HLN : Aside0 (us.length + us2.length ≤ 200000000000) := ⟨by rw [HQ1.out.1, hq2.1]; exact HN.out⟩
  clear hO2 hq2 hlw2 hb4 hrd2
  refine hK.out _ _ ?_ (fun hHeld => ?_)
  · (first | exact HB6 | exact HB5 | exact HB4 | exact HB3 | exact HB0 | exact below_drew HB0)
  clear hK K
  try simp only [Act.put, List.setIfInBounds_toArray, List.set_cons_zero, List.set_cons_succ]
  refine one_step (i := 8) (by kernel_rfl) rfl (fun K hK => ?_)
  refine of_if (by rfl) ?_
  refine append_valsO (W := W4) (.tmp 24) (.tmp 26) rfl _ (.slice A1 us.length c1) us rfl HO14.out ?hbb A2 us2 c2 rfl HRD2.out HAP.out (by have := HLN.out; omega) ?_
  case hbb => exact Nat.le_trans (Nat.le_refl _) (by first | exact HB4.size | (have h4 := HB4.size; have h3 := HB3.size; omega))
  intro v5 W5 hO5 hb5
  have HB5 : Below w.heap.size w W5 := HB4.trans hb5
  obtain ⟨A5, c5, rfl, HO5⟩ := HOF.out W5 _ v5 us us2 hO5 HQ1.out HQ2.out
  have HNM : Aside0 (∀ u ∈ us ++ us2, -9223372036854775808 ≤ u.n ∧ u.n ≤ 9223372036854775807) := ⟨hO5.num⟩
  have HQQ := Aside0.mk (eqR_app HQ1.out HQ2.out)
  clear hO5 hb5 HQ1 HQ2 HAP HLN HRD2 HO14 HO1
  generalize us ++ us2 = xs at HO5 HNM HQQ ⊢
  have hO5 := HO5.out
  generalize xs.length = n at hO5 ⊢
  clear HO5
  refine hK.out _ _ ?_ (fun hHeld => ?_)
  · (first | exact HB6 | exact HB5 | exact HB4 | exact HB3 | exact HB0 | exact below_drew HB0)
  clear hK K
  try simp only [Act.put, List.setIfInBounds_toArray, List.set_cons_zero, List.set_cons_succ]
  refine one_step (i := 9) (by kernel_rfl) rfl (fun K hK => ?_)
  go_simp
  go_at_call 9
  go_loud (refine hO5.mono ?_)
  rintro e W6 ⟨rfl, hV6, hb6⟩
  have HB6 : Below w.heap.size w W6 := below_then HB5 hb6
  refine hK.out _ _ ?_ (fun hHeld => ?_)
  · (first | exact HB6 | exact HB5 | exact HB4 | exact HB3 | exact HB0 | exact below_drew HB0)
  clear hK K
  try simp only [Act.put, List.setIfInBounds_toArray, List.set_cons_zero, List.set_cons_succ]
  refine take_in (i := 10) (v := ?v10b) rfl (by kernel_rfl) (by kernel_rfl) (by kernel_rfl) (fun _ _ _ h => h) (by rfl) ?hy10b (by assumption) ?_
  case hy10b => intro WW hSw; (try dsimp only at hSw); go_simp; try with_reducible rfl
  try simp only [Act.put, List.setIfInBounds_toArray, List.set_cons_zero, List.set_cons_succ]
  refine take_in (i := 11) (v := ?v11b) rfl (by kernel_rfl) (by kernel_rfl) (by kernel_rfl) (fun _ _ _ h => h) (by rfl) ?hy11b (by assumption) ?_
  case hy11b => intro WW hSw; (try dsimp only at hSw); go_simp; try with_reducible rfl
  try simp only [Act.put, List.setIfInBounds_toArray, List.set_cons_zero, List.set_cons_succ]
  refine take_in (i := 12) (v := ?v12b) rfl (by kernel_rfl) (by kernel_rfl) (by kernel_rfl) (fun _ _ _ h => h) (by rfl) ?hy12b (by assumption) ?_
  case hy12b => intro WW hSw; (try dsimp only at hSw); go_simp; try with_reducible rfl
  try simp only [Act.put, List.setIfInBounds_toArray, List.set_cons_zero, List.set_cons_succ]
  refine take_in (i := 13) (v := ?v13b) rfl (by kernel_rfl) (by kernel_rfl) (by kernel_rfl) (fun _ _ _ h => h) (by rfl) ?hy13b (by assumption) ?_
  case hy13b => intro WW hSw; (try dsimp only at hSw); go_simp; try with_reducible rfl
  try simp only [Act.put, List.setIfInBounds_toArray, List.set_cons_zero, List.set_cons_succ]
  refine wpAnyH_done (by kernel_rfl) ?_ _
  go_wp2
  go_ret2
  exact ⟨_, xs, rfl, HQQ.out, vecIs_mono hV6 (fun _ _ => trivial), HNM.out, HB6⟩
end Go.Proofs.YtbdbcbpcekpcoaaDoor
